/-
  A list of lists, each in a row of its own, built by appending; no program in sight.
-/
import Derived.Test.YtobcmlmbblgcdaaGreatDoorG00
namespace Go.Proofs.YtobcmlmbblgcdaaGreatDoor
open Go.RowKit
section
variable {α:Type} (TO TI:TypeId) (k:Nat) (enc:α→List Value)
structure NstV (w:World) (base:Nat) (v:Value) (vs:List Value) (ls:List (List α)):Prop where
 len:vs.length=ls.length
 outer:w.ownsRow base TO 1 v vs.length vs
 inner:∀ (i:Nat) (x:Value) (l:List α),vs[i]? = some x→ls[i]? = some l→w.ownsRow base TI k x l.length (cellsOf enc l)
 off:∀ (i:Nat) (x:Value) (g:Nat),vs[i]? = some x→x.ownBlock=some g→v.ownBlock≠some g
 apart:∀ (i j:Nat) (x y:Value) (g:Nat),i≠j→vs[i]? = some x→vs[j]? = some y→x.ownBlock=some g→y.ownBlock≠some g
def Nst (w:World) (base:Nat) (v:Value) (ls:List (List α)):Prop:=∃ vs,NstV TO TI k enc w base v vs ls
variable {TO TI k enc} {w w':World} {base:Nat} {v:Value} {vs:List Value} {ls:List (List α)}
theorem NstV.lt (h:NstV TO TI k enc w base v vs ls) {i:Nat} {x:Value} {g:Nat} (hx:vs[i]? = some x) (hg:x.ownBlock=some g):base≤g∧g<w.heap.size:=by
 have hi:i<ls.length:=by rw [←h.len];exact (List.getElem?_eq_some_iff.1 hx).1
 exact (h.inner i x ls[i] hx (List.getElem?_eq_getElem hi)).lt g hg
theorem own_below {e:TypeId} {kk n:Nat} {xs:List Value} (h:w.ownsRow base e kk v n xs) (hb:Below w.heap.size w w'):w'.ownsRow base e kk v n xs :=
 h.kept (grown_below hb none) (by cases hv:v.ownBlock <;> simp)
theorem NstV.below (h:NstV TO TI k enc w base v vs ls) (hb:Below w.heap.size w w'):NstV TO TI k enc w' base v vs ls :=
 ⟨h.len,own_below h.outer hb,fun i x l hx hl=>own_below (h.inner i x l hx hl) hb,h.off,h.apart⟩
theorem NstV.other (h:NstV TO TI k enc w base v vs ls) {row:Option Nat} (hg:w.grownBy w' row) (hr:∀ g,row=some g→g<base∨w.heap.size≤g):NstV TO TI k enc w' base v vs ls :=
 ⟨h.len,h.outer.kept hg (by
  cases hv:v.ownBlock with
  | none=>exact Or.inl rfl
  | some g =>
    right
    intro e
    have:=h.outer.lt g hv
    have:=hr g (by rw [←e])
    omega),
  fun i x l hx hl=>(h.inner i x l hx hl).kept hg (by
   cases hv:x.ownBlock with
   | none=>exact Or.inl rfl
   | some g =>
     right
     intro e
     have:=h.lt hx hv
     have:=hr g (by rw [←e])
     omega),h.off,h.apart⟩
theorem NstV.fresh (h:NstV TO TI k enc w base v vs ls) {g:Nat} (hg:w.heap.size≤g):v.ownBlock≠some g∧∀ x∈vs,x.ownBlock≠some g:=by
 refine ⟨fun e=>by have:=(h.outer.lt g e).2;omega,fun x hx e=>?_⟩
 obtain ⟨i,hi,rfl⟩:=List.getElem_of_mem hx
 have:=(h.lt (List.getElem?_eq_getElem hi) e).2
 omega
theorem NstV.beside (h:NstV TO TI k enc w base v vs ls) {g:Nat} (hg:w.grownBy w' (some g)) (hr:v.ownBlock≠some g∧∀ x∈vs,x.ownBlock≠some g):NstV TO TI k enc w' base v vs ls :=
 ⟨h.len,h.outer.kept hg (Or.inr hr.1),fun i x l hx hl=>(h.inner i x l hx hl).kept hg (Or.inr (hr.2 x (List.mem_of_getElem? hx))),h.off,h.apart⟩
theorem NstV.pushNil (h:NstV TO TI k enc w base v vs ls) {A:Option Addr} {c:Nat} {g2:Nat} (hv2:A=some ⟨g2,0,none⟩) (hown:w'.ownsRow base TO 1 (.slice A (vs.length+1) c) (vs.length+1) (vs++[.slice none 0 0])) (hg:w.grownBy w' v.ownBlock) (hat:v.ownBlock=some g2∨g2=w.heap.size) :
 NstV TO TI k enc w' base (.slice A (vs.length+1) c) (vs++[.slice none 0 0]) (ls++[[]]):=by
 subst hv2
 have hold:∀ (i:Nat) (x:Value),(vs++[Value.slice none 0 0])[i]? = some x→(vs[i]? = some x)∨(i=vs.length∧x=.slice none 0 0):=fun i x hx=>by
  rcases Nat.lt_or_ge i vs.length with hi | hi
  · left;rw [List.getElem?_append_left hi] at hx;exact hx
  · right
    rw [List.getElem?_append_right hi] at hx
    have:i - vs.length=0:=by
     have:=(List.getElem?_eq_some_iff.1 hx).1
     simpa using this
    rw [this] at hx
    exact ⟨by omega,by simpa using hx.symm⟩
 refine ⟨by simp [h.len],by rw [List.length_append,List.length_singleton];exact hown,fun i x l hx hl=>?_,fun i x g hx hg'=>?_,fun i j x y g hij hx hy hgx=>?_⟩
 · rcases hold i x hx with hx | ⟨hi,rfl⟩
   · have hi:i<ls.length:=by rw [←h.len];exact (List.getElem?_eq_some_iff.1 hx).1
     rw [List.getElem?_append_left hi] at hl
     refine (h.inner i x l hx hl).kept hg ?_
     cases hv:x.ownBlock with
     | none=>exact Or.inl rfl
     | some g=>right;intro e;exact h.off i x g hx hv e.symm
   · rw [hi,h.len,List.getElem?_append_right (Nat.le_refl _),Nat.sub_self] at hl
     obtain rfl:[]=l:=by simpa using hl
     exact World.ownsRow_nil _ _ _ _
 · rcases hold i x hx with hx | ⟨hi,rfl⟩
   · intro e
     have e:g2=g:=by simpa [Value.ownBlock] using e
     subst e
     rcases hat with hat | hat
     · exact h.off i x g2 hx hg' hat
     · have:=(h.lt hx hg').2;omega
   · simp [Value.ownBlock] at hg'
 · rcases hold i x hx with hx | ⟨_,rfl⟩
   · rcases hold j y hy with hy | ⟨_,rfl⟩
     · exact h.apart i j x y g hij hx hy hgx
     · simp [Value.ownBlock]
   · simp [Value.ownBlock] at hgx
theorem NstV.appendLast {ms:List (List α)} {cur:List α} {t:α} {go c:Nat} {x:Value} {us:List Value} (h:NstV TO TI k enc w base (.slice (some ⟨go,0,none⟩) (us.length+1) c) (us++[x]) (ms++[cur]))
 {g2 cap:Nat} {w1:World} (hown:w1.ownsRow base TI k (.slice (some ⟨g2,0,none⟩) (cur.length+1) cap) (cur.length+1) (cellsOf enc cur++enc t)) (hg:w.grownBy w1 x.ownBlock) (hat:x.ownBlock=some g2∨g2=w.heap.size) :
 NstV TO TI k enc (w1.setCell ⟨go,us.length,none⟩ (.slice (some ⟨g2,0,none⟩) (cur.length+1) cap)) base (.slice (some ⟨go,0,none⟩) (us.length+1) c) (us++[.slice (some ⟨g2,0,none⟩) (cur.length+1) cap]) (ms++[cur++[t]]):=by
 have hl:us.length=ms.length:=by have:=h.len;simp at this;exact this
 have hlast:(us++[x])[us.length]? = some x:=by simp
 have ho:=h.outer
 simp only [List.length_append,List.length_singleton] at ho
 have hgo:=ho.lt go rfl
 have hout:w1.ownsRow base TO 1 (.slice (some ⟨go,0,none⟩) (us.length+1) c) (us.length+1) (us++[x]):=ho.kept hg (by
  right
  intro e
  exact h.off us.length x go hlast e.symm rfl)
 have hs:=hout.stored us.length (.slice (some ⟨g2,0,none⟩) (cur.length+1) cap)
 have hset:(us++[x]).set us.length (.slice (some ⟨g2,0,none⟩) (cur.length+1) cap)=us++[.slice (some ⟨g2,0,none⟩) (cur.length+1) cap]:=by
  rw [List.set_append_right _ _ (Nat.le_refl _),Nat.sub_self];rfl
 rw [hset] at hs
 have hne:g2≠go:=by
  intro e
  subst e
  rcases hat with hat | hat
  · exact h.off us.length x g2 hlast hat rfl
  · omega
 have hold:∀ (i:Nat) (y:Value),(us++[Value.slice (some ⟨g2,0,none⟩) (cur.length+1) cap])[i]? = some y→(i<us.length∧(us++[x])[i]? = some y)∨(i=us.length∧y=.slice (some ⟨g2,0,none⟩) (cur.length+1) cap):=fun i y hy=>by
  rcases Nat.lt_or_ge i us.length with hi | hi
  · left
    rw [List.getElem?_append_left hi] at hy
    exact ⟨hi,by rw [List.getElem?_append_left hi];exact hy⟩
  · right
    rw [List.getElem?_append_right hi] at hy
    have:i - us.length=0:=by
     have:=(List.getElem?_eq_some_iff.1 hy).1
     simpa using this
    rw [this] at hy
    exact ⟨by omega,by simpa using hy.symm⟩
 have hoth:∀ (i:Nat) (y:Value) (g:Nat),i<us.length→(us++[x])[i]? = some y→y.ownBlock=some g→g≠g2∧g≠go∧x.ownBlock≠some g:=fun i y g hi hy hyg=>by
  have h1:=h.lt hy hyg
  have h2:=h.off i y g hy hyg
  have h3:=h.apart i us.length y x g (by omega) hy hlast hyg
  refine ⟨fun e=>?_,fun e=>h2 (by rw [e];rfl),h3⟩
  subst e
  rcases hat with hat | hat
  · exact h3 hat
  · omega
 refine ⟨by simp [hl],by rw [List.length_append,List.length_singleton];exact hs.1,fun i y l hy hyl=>?_,fun i y g hy hyg=>?_,fun i j y z g hij hy hz hyg=>?_⟩
 · rcases hold i y hy with ⟨hi,hy⟩ | ⟨hi,rfl⟩
   · rw [List.getElem?_append_left (by omega)] at hyl
     have h1:=h.inner i y l hy (by rw [List.getElem?_append_left (by omega)];exact hyl)
     have h2:w1.ownsRow base TI k y l.length (cellsOf enc l):=h1.kept hg (by
      cases hv:y.ownBlock with
      | none=>exact Or.inl rfl
      | some g=>right;intro e;exact (hoth i y g hi hy hv).2.2 e.symm)
     refine h2.kept hs.2 ?_
     cases hv:y.ownBlock with
     | none=>exact Or.inl rfl
     | some g=>right;intro e;exact (hoth i y g hi hy hv).2.1 (Option.some.inj e)
   · rw [hi,hl,List.getElem?_append_right (Nat.le_refl _),Nat.sub_self] at hyl
     obtain rfl:cur++[t]=l:=by simpa using hyl
     rw [List.length_append,List.length_singleton,cellsOf_append]
     have e:cellsOf enc [t]=enc t:=by simp [cellsOf]
     rw [e]
     exact hown.kept hs.2 (Or.inr (fun e=>hne (by simpa [Value.ownBlock] using e)))
 · rcases hold i y hy with ⟨hi,hy⟩ | ⟨_,rfl⟩
   · intro e
     have e:go=g:=by simpa [Value.ownBlock] using e
     exact (hoth i y g hi hy hyg).2.1 e.symm
   · intro e
     have e:go=g:=by simpa [Value.ownBlock] using e
     have e2:g2=g:=by simpa [Value.ownBlock] using hyg
     exact hne (by rw [e2,e])
 · rcases hold i y hy with ⟨hi,hy⟩ | ⟨hi,rfl⟩
   · rcases hold j z hz with ⟨hj,hz⟩ | ⟨hj,rfl⟩
     · exact h.apart i j y z g hij hy hz hyg
     · intro e
       have e:g2=g:=by simpa [Value.ownBlock] using e
       exact (hoth i y g hi hy hyg).1 e.symm
   · rcases hold j z hz with ⟨hj,hz⟩ | ⟨hj,rfl⟩
     · intro e
       have e2:g2=g:=by simpa [Value.ownBlock] using hyg
       exact (hoth j z g hj hz e).1 e2.symm
     · omega
theorem NstV.first (hb:base≤w.heap.size):NstV TO TI k enc (w.alloc (.cells #[.slice none 0 0] TO)) base (.slice (some ⟨w.heap.size,0,none⟩) 1 1) [.slice none 0 0] [[]]:=by
 refine ⟨rfl,World.ownsRow_lit w #[.slice none 0 0] 1 hb (by unfold maxLen;omega) rfl,fun i x l hx hl=>?_,fun i x g hx hg=>?_,fun i j x y g hij hx hy hg=>?_⟩
 · cases i with
   | zero =>
     obtain rfl:Value.slice none 0 0=x:=by simpa using hx
     obtain rfl:[]=l:=by simpa using hl
     exact World.ownsRow_nil _ _ _ _
   | succ i=>simp at hx
 · cases i with
   | zero =>
     obtain rfl:Value.slice none 0 0=x:=by simpa using hx
     simp [Value.ownBlock] at hg
   | succ i=>simp at hx
 · cases i with
   | zero =>
     obtain rfl:Value.slice none 0 0=x:=by simpa using hx
     simp [Value.ownBlock] at hg
   | succ i=>simp at hx
end
end Go.Proofs.YtobcmlmbblgcdaaGreatDoor

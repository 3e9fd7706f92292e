/-
  A list of numbers that came in, and the tape over it; rows beside the heap.
  Lists of rules and of faults in memory.
  The value of a term by its key: plain, and the contract of the reference's Value.
-/
import Derived.Test.YtobcmlmbblgcdaaGreatDoorG00
import Derived.Test.YtobcmlmbblgcdaaGreatDoorG01
import Derived.Deep.Onto
namespace Go.Proofs.YtobcmlmbblgcdaaGreatDoor
section
open Go.RowKit
theorem own_below2 {w w':World} {base kk n:Nat} {e:TypeId} {v:Value} {xs:List Value} (h:w.ownsRow base e kk v n xs) (hb:Below w.heap.size w w'):w'.ownsRow base e kk v n xs :=
 h.kept (grown_below hb none) (by cases hv:v.ownBlock <;> simp)
def IntsIn (w:World) (A:Option Addr) (n:Nat):Prop:=n≤9223372036854775807∧∃ ba off,(0<n→A=some ⟨ba,off,none⟩)∧ba<w.heap.size∧∀ i,i<n→∃ z:Int,w.cell? ⟨ba,off+i,none⟩=some (.int .i64 z) ∧ -9223372036854775808≤z∧z≤9223372036854775807
theorem IntsIn.tape {w:World} {A:Option Addr} {n:Nat} (h:IntsIn w A n) (c:Nat) (t:TypeId):TapeIs (w.alloc (.cells #[.slice A n c,.int .i64 0] t)) w.heap.size n 0:=by
 obtain ⟨h0,ba,off,hA,hlt,hz⟩:=h
 refine ⟨⟨A,c,t,heap_alloc_new _ _,ba,off,hA,by omega,fun i hi=>?_⟩,h0⟩
 obtain ⟨z,hc,z1,z2⟩:=hz i hi
 exact ⟨z,by rw [World.cell?_of_block (Below.heap_alloc w _ ba hlt)];exact hc,z1,z2⟩
theorem grown_back {w W0 W:World} {b:Nat} (h:Below w.heap.size w W0) (hg:W0.grownBy W (some b)) (hb:w.heap.size≤b):Below w.heap.size w W :=
 ⟨hg.os.trans h.os,hg.tape.trans h.tape,hg.output.trans h.output,Nat.le_trans h.size hg.size,fun k hk=>(hg.block k (Nat.lt_of_lt_of_le hk h.size) (by intro e;have:=Option.some.inj e;omega)).trans (h.block k hk)⟩
end
section
open Go.RowKit
structure Rl where
 file:ByteArray
 line:Int
 tms:Ls Tm
def encRl (x:Rl):List Value:=[.string x.file,.int .i64 x.line,.slice x.tms.A x.tms.l.length x.tms.c]
theorem encRl_len (x:Rl):(encRl x).length=3:=rfl
end
section
open Go.RowKit
def valL (l:List Tm) (key:Int):Option ByteArray:=(l.find? fun t=>t.key == key).map Tm.value
def valOV (o:Option ByteArray):Value:=.tuple #[.string (o.getD ⟨#[]⟩),.bool o.isSome]
theorem find_hit {l:List Tm} {key:Int} {k:Nat} (hno:∀ j (h:j<l.length),j<k→l[j].key≠key) (hk:k<l.length) (h:l[k].key=key):valL l key=some l[k].value:=by
 unfold valL
 have:l.find? (fun t=>t.key == key)=some l[k]:=by
  rw [List.find?_eq_some_iff_getElem]
  exact ⟨by simpa using h,k,hk,rfl,fun j hj=>by simpa using hno j (by omega) hj⟩
 rw [this];rfl
theorem find_miss {l:List Tm} {key:Int} (hno:∀ j (h:j<l.length),l[j].key≠key):valL l key=none:=by
 unfold valL
 have:l.find? (fun t=>t.key == key)=none:=by
  rw [List.find?_eq_none]
  intro t ht
  obtain ⟨j,hj,rfl⟩:=List.getElem_of_mem ht
  simpa using hno j hj
 rw [this];rfl
end
end Go.Proofs.YtobcmlmbblgcdaaGreatDoor

/-
  Short terms: what the makers of terms hand back; rows known whole.
  What a match is; the contracts of both sides' Match; a row of terms, element by element.
  The library's generic functions at this program's types: layings of the kit's contracts. (Printed by gen_lay.py.)
  slices.BinarySearch and slices.Insert over texts: layings of the kit's contracts. (Printed by gen_layp.py.)
  A list that a function makes beside the tape.
-/
import Derived.Test.YtobcmlmbblgcdaaGreatDoorG00
import Derived.Deep.Cut
import Derived.Deep.CutRange
import Derived.Deep.CutBlock
import Derived.Test.YtobcmlmbblgcdaaGreatDoorProg
import Derived.Shelf.SlicesE.Clone
import Derived.Shelf.SlicesQ.IndexFunc
import Derived.Shelf.Spec.SearchS
import Derived.Shelf.Spec.SlicesInsert
import Derived.Shelf.Spec.SlicesInsertGrow
namespace Go.Proofs.YtobcmlmbblgcdaaGreatDoor
set_option maxRecDepth 100000
section
open Go.RowKit
structure Tm where
 key:Int
 name:ByteArray
 op:Int
 value:ByteArray
def encTm (t:Tm):List Value:=[.int .i64 t.key,.string t.name,.int .i64 t.op,.string t.value]
def tmV (t:Tm):Value:=.agg #[.int .i64 t.key,.string t.name,.int .i64 t.op,.string t.value]
theorem encTm_len (t:Tm):(encTm t).length=4:=rfl
theorem TNx.trans {w0 W W1 W2:World} {b n p d d':Nat} (h:TNx w0 b n p d W W1) (k:TNx w0 b n p d' W1 W2):TNx w0 b n p d' W W2:=⟨k.st,grown_tr h.gr k.gr⟩
theorem TNx.more {w0 W W1:World} {b n p d d':Nat} (h:TNx w0 b n p d W W1) (hd:d≤d'):TNx w0 b n p d' W W1:=⟨h.st.more hd,h.gr⟩
theorem TNx.blk {w0 W W1:World} {b n p d g:Nat} {o:Obj} (h:TNx w0 b n p d W W1) (hg:W.heap[g]? = some o) (hne:g≠b):W1.heap[g]? = some o:=(h.gr.block g (blk_lt' hg) (fun e=>hne (Option.some.inj e))).trans hg
theorem TNx.setRow {w0 W W1:World} {b n p d g:Nat} (h:TNx w0 b n p d W W1) (hg:W.heap.size≤g) (hw:w0.heap.size≤W.heap.size) (c:Array Value):TNx w0 b n p d W (W1.setRow g c) :=
 ⟨h.st.grown (grown_setRow W1 g c) (fun j e=>by cases e;omega),grown_far h.gr (grown_setRow W1 g c) (fun j e=>by cases e;exact Or.inl hg)⟩
theorem TNx.of_below {w0 W W' W1:World} {b n p d:Nat} (h:TNx w0 b n p d W' W1) (hb:Below W.heap.size W W'):TNx w0 b n p d W W1:=⟨h.st,grown_tr (grown_below hb _) h.gr⟩
theorem TNx.grownR {w0 W W1 W2:World} {b n p d:Nat} {row:Option Nat} (h:TNx w0 b n p d W W1) (hg:W1.grownBy W2 row) (hr:∀ j,row=some j→w0.heap.size≤j∧W.heap.size≤j):TNx w0 b n p d W W2 :=
 ⟨h.st.grown hg (fun j e=>(hr j e).1),grown_far h.gr hg (fun j e=>Or.inl (hr j e).2)⟩
theorem TNx.setCellR {w0 W W1:World} {b n p d g i:Nat} {u:Value} (h:TNx w0 b n p d W W1) (hg:W.heap.size≤g) (hw:w0.heap.size≤W.heap.size):TNx w0 b n p d W (W1.setCell ⟨g,i,none⟩ u):=h.grownR (grown_set W1 g i u) (fun j e=>by cases e;exact ⟨by omega,hg⟩)
theorem TNx.cell {w0 W W1:World} {b n p d:Nat} (h:TNx w0 b n p d W W1):∀ g i,g<W.heap.size→g≠b→W1.cell? ⟨g,i,none⟩=W.cell? ⟨g,i,none⟩:=fun g i hg hne=>h.gr.cell_far ⟨g,i,none⟩ hg (fun e=>hne (Option.some.inj e))
theorem One_k {w0 W:World} {b n p d:Nat} (m:Nat) (A:Array Value) (T:TypeId) (g k c:Nat) (h:TSt w0 b n p d W) (hrow:W.heap[g]? = some (.cells A T (0,0))) (hA:strCells m A=true) (hk:A.size=k) (hk0:0<k) (hk1:k≤1000) (hg:g≠b) (h3:p+d≤1000000) :
 Calls Tryz.prog 14 #[.pointer (some ⟨b,0,none⟩),.slice (some ⟨g,0,none⟩) k c] W (SomeStr (·.size≤m) (TNx w0 b n p (d+1) W)):=by
 obtain ⟨ss,e,hs⟩:=strCells_list hA
 have hl:ss.length=k:=by rw [←hk,←Array.length_toList,e,List.length_map]
 subst hl
 refine (One_t g 0 c ss h h3 hg hk0 hk1 (fun i s hi=>?_)).mono fun e w' ⟨s,h1,he,ht⟩=>⟨s,hs s h1,he,ht⟩
 rw [Nat.zero_add,cell_of_row _ _ i _ _ _ hrow,←Array.getElem?_toList,e,List.getElem?_map,hi];rfl
theorem res4 {W:World} {g:Nat} {T:TypeId} {x0 x1 x2 x3:Value} (h:W.heap[g]? = some (.cells #[x0,x1,x2,x3] T (0,0))) :
 (W.cell? ⟨g,0,none⟩=some x0∧W.cell? ⟨g,1,none⟩=some x1∧W.cell? ⟨g,2,none⟩=some x2∧W.cell? ⟨g,3,none⟩=some x3)∧W.frozen? ⟨g,0,none⟩=false∧W.frozen? ⟨g,1,none⟩=false∧W.frozen? ⟨g,2,none⟩=false∧W.frozen? ⟨g,3,none⟩=false :=
 ⟨⟨by rw [cell_of_row _ _ 0 _ _ _ h];rfl,by rw [cell_of_row _ _ 1 _ _ _ h];rfl,by rw [cell_of_row _ _ 2 _ _ _ h];rfl,by rw [cell_of_row _ _ 3 _ _ _ h];rfl⟩,frozen_of_row _ _ _ _ _ h,frozen_of_row _ _ _ _ _ h,frozen_of_row _ _ _ _ _ h,frozen_of_row _ _ _ _ _ h⟩
theorem cellOf {W:World} {g j:Nat} {A:Array Value} {T:TypeId} {u:Value} (h:W.heap[g]? = some (.cells A T (0,0))) (hA:A[j]? = some u):W.cell? ⟨g,j,none⟩=some u:=by rw [cell_of_row _ _ j _ _ _ h];exact hA
theorem post_cellrow {P:Program} {fn:Func} {R:Ending→World→Prop} {a:Act} {W:World} {g:Nat} {p:Tmp} {ty t:TypeId} {old cs:Array Value} {fr:Nat × Nat} {d:TypeDesc} (h:fn.results=#[.cell p ty]) (hp:a.tmps.getD p undef=.pointer (some ⟨g,0,none⟩))
 (hg:W.heap[g]? = some (.cells old t fr)) (hu:P.underlying ty=some d) (hd:(match d with | .struct _ | .array _ _=>true | _=>false)=true) (hi:(P.info? ty).map (·.size)=some cs.size) (hdef:a.defers=[])
 (hR:R (.returned (.agg cs)) (W.setRow g cs)):bodyPost P fn R .ret a (W.setRow g cs) :=
 bodyPost_ret (results_cell_row h _ _ g t cs fr d hp (setRow_heap _ _ _ _ _ _ hg) hu hd hi) hdef hR
end
section
open Go.RowKit
def matchB (op:Int):Bool:=op == 1 || op == 2
theorem box4 {W w1:World} {x0 x1 x2 x3:Value} {T:TypeId} (hb:Below (W.alloc (.cells #[x0,x1,x2,x3] T)).heap.size (W.alloc (.cells #[x0,x1,x2,x3] T)) w1) :
 w1.cell? ⟨W.heap.size,0,none⟩=some x0∧w1.cell? ⟨W.heap.size,1,none⟩=some x1∧w1.cell? ⟨W.heap.size,2,none⟩=some x2∧w1.cell? ⟨W.heap.size,3,none⟩=some x3 :=
 (res4 ((hb.block _ (by simp)).trans (heap_alloc_new W _))).1
theorem PMatch_any (t:Tm) (w:World):Calls Tryz.prog 105 #[tmV t] w fun e w'=>e=.returned (.bool (matchB t.op))∧Below w.heap.size w w':=by
 unfold tmV
 by_cases h1:t.op=1
 · have e1:(t.op == 1)=true:=by simpa using h1
   have HM:Hid (matchB t.op=true):=Lib.hid (by simp [matchB,h1])
   clear h1
   go_enter Tryz.func105,Tryz.ntmps105
   go_wp2
   go_ret
   exact ⟨ret_bool (by rw [HM.out]),by go_grown⟩
 · have e1:(t.op == 1)=false:=by simpa using h1
   have HM:Hid (matchB t.op=(t.op == 2)):=Lib.hid (by simp [matchB,e1])
   clear h1
   go_enter Tryz.func105,Tryz.ntmps105
   go_wp2
   go_ret
   exact ⟨ret_bool (by rw [HM.out]),by go_grown⟩
theorem RowAt.tm {w wr:World} {B:Nat} {A:Option Addr} {l:List Tm} (h:RowAt w B A 4 l.length (cellsOf encTm l)) (hb:Below B w wr) {k:Nat} (hk:k<l.length):∃ ba off,A=some ⟨ba,off,none⟩ ∧
 wr.cell? ⟨ba,off+k*4,none⟩=some (.int .i64 l[k].key)∧wr.cell? ⟨ba,off+k*4+1,none⟩=some (.string l[k].name)∧wr.cell? ⟨ba,off+k*4+2,none⟩=some (.int .i64 l[k].op)∧wr.cell? ⟨ba,off+k*4+3,none⟩=some (.string l[k].value):=by
 obtain ⟨ba,off,hA,hba,hc⟩:=h.cell encTm_len hk
 have hx:l[k]? = some l[k]:=List.getElem?_eq_getElem hk
 refine ⟨ba,off,hA,?_,?_,?_,?_⟩
 · rw [hb.cell (p:=⟨ba,off+k*4,none⟩) hba];exact hc k _ hx 0 _ rfl
 · rw [hb.cell (p:=⟨ba,off+k*4+1,none⟩) hba];exact hc k _ hx 1 _ rfl
 · rw [hb.cell (p:=⟨ba,off+k*4+2,none⟩) hba];exact hc k _ hx 2 _ rfl
 · rw [hb.cell (p:=⟨ba,off+k*4+3,none⟩) hba];exact hc k _ hx 3 _ rfl
end
section
open Go.Shelf Go.RowKit Go.Lib
def laysClnA_ren:Go.Shelf.Ren:=⟨fun | 41=>50 | n=>n,fun | 22=>31 | 23=>104 | n=>n,fun | n=>n⟩
theorem laysClnA:Go.Proofs.SlLaysE0.n41 Tryz.prog laysClnA_ren:={
 mixed:=by kernel_rfl
 f41:=⟨Tryz.f50.name,by decide,Tryz.func50.trans (congrArg some (by kernel_rfl))⟩
 t4:=Tryz.underlying4
 a4:=Tryz.isAgg4
 z4:=Tryz.sizeOf4
 v4:=Tryz.zeroValue4
 t22:=Tryz.underlying31
 a22:=Tryz.isAgg31
 z22:=Tryz.sizeOf31
 v22:=Tryz.zeroValue31 }
def laysClnS_ren:Go.Shelf.Ren:=⟨fun | 41=>52 | n=>n,fun | 22=>32 | 23=>9 | n=>n,fun | n=>n⟩
theorem laysClnS:Go.Proofs.SlLaysE0.n41 Tryz.prog laysClnS_ren:={
 mixed:=by kernel_rfl
 f41:=⟨Tryz.f52.name,by decide,Tryz.func52.trans (congrArg some (by kernel_rfl))⟩
 t4:=Tryz.underlying4
 a4:=Tryz.isAgg4
 z4:=Tryz.sizeOf4
 v4:=Tryz.zeroValue4
 t22:=Tryz.underlying32
 a22:=Tryz.isAgg32
 z22:=Tryz.sizeOf32
 v22:=Tryz.zeroValue32 }
def laysClnM_ren:Go.Shelf.Ren:=⟨fun | 41=>51 | n=>n,fun | 22=>42 | 23=>46 | n=>n,fun | n=>n⟩
theorem laysClnM:Go.Proofs.SlLaysE0.n41 Tryz.prog laysClnM_ren:={
 mixed:=by kernel_rfl
 f41:=⟨Tryz.f51.name,by decide,Tryz.func51.trans (congrArg some (by kernel_rfl))⟩
 t4:=Tryz.underlying4
 a4:=Tryz.isAgg4
 z4:=Tryz.sizeOf4
 v4:=Tryz.zeroValue4
 t22:=Tryz.underlying42
 a22:=Tryz.isAgg42
 z22:=Tryz.sizeOf42
 v22:=Tryz.zeroValue42 }
def laysIxV_ren:Go.Shelf.Ren:=⟨fun | 6=>68 | n=>n,fun | 22=>28 | 23=>67 | 25=>111 | n=>n,fun | n=>n⟩
theorem laysIxV:Go.Proofs.SlLaysH0.n6 Tryz.prog laysIxV_ren:={
 mixed:=by kernel_rfl
 f6:=⟨Tryz.f68.name,by decide,Tryz.func68.trans (congrArg some (by kernel_rfl))⟩
 t0:=Tryz.underlying0
 a0:=Tryz.isAgg0
 z0:=Tryz.sizeOf0
 v0:=Tryz.zeroValue0
 t3:=Tryz.underlying3
 a3:=Tryz.isAgg3
 z3:=Tryz.sizeOf3
 v3:=Tryz.zeroValue3
 t4:=Tryz.underlying4
 a4:=Tryz.isAgg4
 z4:=Tryz.sizeOf4
 v4:=Tryz.zeroValue4
 t22:=Tryz.underlying28
 a22:=Tryz.isAgg28
 z22:=Tryz.sizeOf28
 v22:=Tryz.zeroValue28
 t25:=Tryz.underlying111
 a25:=Tryz.isAgg111
 z25:=Tryz.sizeOf111
 v25:=Tryz.zeroValue111 }
def laysIxH_ren:Go.Shelf.Ren:=⟨fun | 6=>157 | n=>n,fun | 22=>35 | 23=>99 | 25=>224 | n=>n,fun | n=>n⟩
theorem laysIxH:Go.Proofs.SlLaysH0.n6 Tryz.prog laysIxH_ren:={
 mixed:=by kernel_rfl
 f6:=⟨Tryz.f157.name,by decide,Tryz.func157.trans (congrArg some (by kernel_rfl))⟩
 t0:=Tryz.underlying0
 a0:=Tryz.isAgg0
 z0:=Tryz.sizeOf0
 v0:=Tryz.zeroValue0
 t3:=Tryz.underlying3
 a3:=Tryz.isAgg3
 z3:=Tryz.sizeOf3
 v3:=Tryz.zeroValue3
 t4:=Tryz.underlying4
 a4:=Tryz.isAgg4
 z4:=Tryz.sizeOf4
 v4:=Tryz.zeroValue4
 t22:=Tryz.underlying35
 a22:=Tryz.isAgg35
 z22:=Tryz.sizeOf35
 v22:=Tryz.zeroValue35
 t25:=Tryz.underlying224
 a25:=Tryz.isAgg224
 z25:=Tryz.sizeOf224
 v25:=Tryz.zeroValue224 }
def laysCnM_ren:Go.Shelf.Ren:=⟨fun | 6=>155 | 8=>133 | n=>n,fun | 22=>42 | 23=>46 | 25=>176 | n=>n,fun | n=>n⟩
theorem laysCnM:Go.Proofs.SlLaysH0.n8 Tryz.prog laysCnM_ren:={
 mixed:=by kernel_rfl
 f6:=⟨Tryz.f155.name,by decide,Tryz.func155.trans (congrArg some (by kernel_rfl))⟩
 f8:=⟨Tryz.f133.name,by decide,Tryz.func133.trans (congrArg some (by kernel_rfl))⟩
 t0:=Tryz.underlying0
 a0:=Tryz.isAgg0
 z0:=Tryz.sizeOf0
 v0:=Tryz.zeroValue0
 t3:=Tryz.underlying3
 a3:=Tryz.isAgg3
 z3:=Tryz.sizeOf3
 v3:=Tryz.zeroValue3
 t4:=Tryz.underlying4
 a4:=Tryz.isAgg4
 z4:=Tryz.sizeOf4
 v4:=Tryz.zeroValue4
 t22:=Tryz.underlying42
 a22:=Tryz.isAgg42
 z22:=Tryz.sizeOf42
 v22:=Tryz.zeroValue42
 t25:=Tryz.underlying176
 a25:=Tryz.isAgg176
 z25:=Tryz.sizeOf176
 v25:=Tryz.zeroValue176 }
def CloneP {α:Type} (T:TypeId) (k:Nat) (enc:α→List Value) (l:List α) (w:World) (e:Ending) (w':World):Prop:=∃ A c,e=.returned (.slice A l.length c)∧w'.ownsRow w.heap.size T k (.slice A l.length c) l.length (cellsOf enc l)∧Below w.heap.size w w'
theorem clone_gen {ρ:Ren} {α:Type} {enc:α→List Value} {k bytes:Nat} {z:Value} (L:Go.Proofs.SlLaysE0.n41 Tryz.prog ρ) (_hk:∀ x,(enc x).length=k) (h1:∀ x,∀ u∈enc x,u.oneCell'=true) (h0:0<k)
 (hi:(Tryz.prog.info? (ρ.t 23)).map (fun i=>(i.zero,i.size,i.bytes))=some (some z,k,bytes)) (hzs:z.cells.size=k) (zs:∀ w,(Go.sizeOf (ρ.t 23)).run Tryz.prog w=.ok k w) (hb:bytes≤1000)
 (A:Option Addr) (c:Nat) (l:List α) (w:World) (hn:l.length≤1000000) (h:RowN w A k l.length (cellsOf enc l)) :
 Calls Tryz.prog (ρ.f 41) #[.slice A l.length c] w (CloneP (ρ.t 23) k enc l w):=by
 obtain ⟨i0,hi0,hz0,hz1,hz2⟩:=info_parts hi
 have hc1:∀ u∈cellsOf enc l,u.oneCell'=true:=fun u hu=>by
  obtain ⟨x,_,hx⟩:=List.mem_flatMap.1 hu
  exact h1 x u hx
 have hmul:l.length*bytes≤140737488355328:=Nat.le_trans (Nat.mul_le_mul hn hb) (by decide)
 cases A with
 | none =>
   have hl:l=[]:=by
    rcases Nat.eq_zero_or_pos l.length with e | e
    · exact List.length_eq_zero_iff.1 e
    · obtain ⟨_,_,e2,_⟩:=h.row.at_ e
      cases e2
   subst hl
   refine (AnyE.slices_Clone_nil L _ c w).mono ?_
   rintro e w' ⟨rfl,rfl⟩
   exact ⟨none,0,rfl,World.ownsRow_nil _ _ _ _,Below.refl _ _⟩
 | some a =>
   obtain ⟨ea,_⟩:=h.pl a rfl
   rw [ea] at h ⊢
   refine (AnyE.slices_Clone L i0 z k bytes hi0 hz0 hz1 hz2 hzs h0 zs a.block a.off l.length c (cellsOf enc l) w h.row.len (by unfold maxLen;omega) hmul (fun j u hu=>?_) hc1).mono ?_
   · have hj:=(List.getElem?_eq_some_iff.1 hu).1
     rw [h.row.len] at hj
     have hp:0<l.length:=by
      rcases Nat.eq_zero_or_pos l.length with e | e
      · rw [e] at hj;simp at hj
      · exact e
     obtain ⟨ba,off,e2,_,hcell⟩:=h.row.at_ hp
     injection e2 with e2
     injection e2 with e3 e4
     rw [e3,e4]
     exact hcell j u hu
   · rintro e w' ⟨v',rfl,hown,_,hB⟩
     rcases hown.2 with ⟨h2,h3⟩ | ⟨g,cap,cur,h2,_⟩
     · exact ⟨none,0,by rw [h2,h3],by rw [h3,←h2];rw [h3] at hown;exact hown,hB⟩
     · exact ⟨_,cap,by rw [h2],by rw [←h2];exact hown,hB⟩
theorem attrInfo:(Tryz.prog.info? 104).map (fun i=>(i.zero,i.size,i.bytes))=some (some (.agg #[.string ⟨#[]⟩,.string ⟨#[]⟩]),2,32):=by kernel_rfl
theorem termInfoM:(Tryz.prog.info? 46).map (fun i=>(i.zero,i.size,i.bytes))=some (some (.agg #[.int .i64 0,.string ⟨#[]⟩,.int .i64 0,.string ⟨#[]⟩]),4,48):=by kernel_rfl
def encS (s:Str):List Value:=[.string (bs s)]
theorem encAt_1 (x:At):∀ u∈encAt x,u.oneCell'=true:=by simp [encAt,Value.oneCell']
theorem encTm_1 (x:Tm):∀ u∈encTm x,u.oneCell'=true:=by simp [encTm,Value.oneCell']
theorem encS_1 (x:Str):∀ u∈encS x,u.oneCell'=true:=by simp [encS,Value.oneCell']
theorem strInfoC:(Tryz.prog.info? 9).map (fun i=>(i.zero,i.size,i.bytes))=some (some (.string ⟨#[]⟩),1,16):=by kernel_rfl
theorem CloneA_any (A:Option Addr) (c:Nat) (l:List At) (w:World) (hn:l.length≤1000000) (h:RowN w A 2 l.length (cellsOf encAt l)):Calls Tryz.prog 50 #[.slice A l.length c] w (CloneP 104 2 encAt l w) :=
 clone_gen (ρ:=laysClnA_ren) (enc:=encAt) (k:=2) (bytes:=32) (z:=.agg #[.string ⟨#[]⟩,.string ⟨#[]⟩]) laysClnA (fun _=>rfl) encAt_1 (by decide) (by exact attrInfo) rfl Tryz.sizeOf104 (by decide) A c l w hn h
theorem CloneS_any (A:Option Addr) (c:Nat) (l:List Str) (w:World) (hn:l.length≤1000000) (h:RowN w A 1 l.length (cellsOf encS l)):Calls Tryz.prog 52 #[.slice A l.length c] w (CloneP 9 1 encS l w) :=
 clone_gen (ρ:=laysClnS_ren) (enc:=encS) (k:=1) (bytes:=16) (z:=.string ⟨#[]⟩) laysClnS (fun _=>rfl) encS_1 (by decide) (by exact strInfoC) rfl Tryz.sizeOf9 (by decide) A c l w hn h
theorem CloneM_any (A:Option Addr) (c:Nat) (l:List Tm) (w:World) (hn:l.length≤1000000) (h:RowN w A 4 l.length (cellsOf encTm l)):Calls Tryz.prog 51 #[.slice A l.length c] w (CloneP 46 4 encTm l w) :=
 clone_gen (ρ:=laysClnM_ren) (enc:=encTm) (k:=4) (bytes:=48) (z:=.agg #[.int .i64 0,.string ⟨#[]⟩,.int .i64 0,.string ⟨#[]⟩]) laysClnM (fun _=>rfl) encTm_1 (by decide) (by exact termInfoM) rfl Tryz.sizeOf46 (by decide) A c l w hn h
theorem idx_cases {α:Type} [Inhabited α] (q:α→Bool) (l:List α):(∃ (k:Nat) (x:α),l[k]? = some x∧Lib.idxBy (fun _ y=>q y) l default=(k:Int)∧l.find? q=some x)∨(Lib.idxBy (fun _ y=>q y) l default = -1∧l.find? q=none):=by
 cases h:l.find? q with
 | none =>
   right
   rw [List.find?_eq_none] at h
   refine ⟨?_,rfl⟩
   have:=Lib.idxBy_miss (fun _ y=>q y) l l.length default (fun j hj=>by
    show q l[j]! = false
    rw [getElem!_pos l j hj]
    simpa using h l[j] (List.getElem_mem _))
   rwa [List.take_length] at this
 | some x =>
   left
   rw [List.find?_eq_some_iff_getElem] at h
   obtain ⟨hx,k,hk,rfl,hj⟩:=h
   refine ⟨k,l[k],List.getElem?_eq_getElem hk,?_,rfl⟩
   have:=Lib.idxBy_hit (fun _ y=>q y) l l.length k default hk (Nat.le_refl _) (by show q l[k]! = true;rw [getElem!_pos l k hk];exact hx) (fun j h2=>by
    show q l[j]! = false
    rw [getElem!_pos l j (by omega)]
    simpa using hj j h2)
   rwa [List.take_length] at this
end
section
open Go.Shelf Go.RowKit Go.Lib
def laysIns_ren:Go.Shelf.Ren:=⟨fun | 17=>301 | 22=>223 | 29=>251 | 30=>252 | 36=>279 | n=>n,fun | 9=>9 | 24=>32 | n=>n,fun | n=>n⟩
theorem laysIns:Go.Proofs.Lays2.n22 Tryz.prog laysIns_ren:={
 mixed:=by kernel_rfl
 f17:=Tryz.func301.trans (congrArg some (by kernel_rfl))
 f22:=Tryz.func223.trans (congrArg some (by kernel_rfl))
 f29:=Tryz.func251.trans (congrArg some (by kernel_rfl))
 f30:=Tryz.func252.trans (congrArg some (by kernel_rfl))
 f36:=Tryz.func279.trans (congrArg some (by kernel_rfl))
 t0:=Tryz.underlying0
 a0:=Tryz.isAgg0
 z0:=Tryz.sizeOf0
 v0:=Tryz.zeroValue0
 t3:=Tryz.underlying3
 a3:=Tryz.isAgg3
 z3:=Tryz.sizeOf3
 v3:=Tryz.zeroValue3
 t4:=Tryz.underlying4
 a4:=Tryz.isAgg4
 z4:=Tryz.sizeOf4
 v4:=Tryz.zeroValue4
 t9:=Tryz.underlying9
 a9:=Tryz.isAgg9
 z9:=Tryz.sizeOf9
 v9:=Tryz.zeroValue9
 t24:=Tryz.underlying32
 a24:=Tryz.isAgg32
 z24:=Tryz.sizeOf32
 v24:=Tryz.zeroValue32
 i9:=strInfoC }
def laysBsS_ren:Go.Shelf.Ren:=⟨fun | 26=>222 | 33=>249 | 34=>250 | 38=>278 | n=>n,fun | 9=>9 | 24=>32 | 40=>165 | n=>n,fun | n=>n⟩
theorem laysBsS:Go.Proofs.Lays2.n26 Tryz.prog laysBsS_ren:={
 mixed:=by kernel_rfl
 f26:=Tryz.func222.trans (congrArg some (by kernel_rfl))
 f33:=Tryz.func249.trans (congrArg some (by kernel_rfl))
 f34:=Tryz.func250.trans (congrArg some (by kernel_rfl))
 f38:=Tryz.func278.trans (congrArg some (by kernel_rfl))
 t0:=Tryz.underlying0
 a0:=Tryz.isAgg0
 z0:=Tryz.sizeOf0
 v0:=Tryz.zeroValue0
 t3:=Tryz.underlying3
 a3:=Tryz.isAgg3
 z3:=Tryz.sizeOf3
 v3:=Tryz.zeroValue3
 t4:=Tryz.underlying4
 a4:=Tryz.isAgg4
 z4:=Tryz.sizeOf4
 v4:=Tryz.zeroValue4
 t9:=Tryz.underlying9
 a9:=Tryz.isAgg9
 z9:=Tryz.sizeOf9
 v9:=Tryz.zeroValue9
 t24:=Tryz.underlying32
 a24:=Tryz.isAgg32
 z24:=Tryz.sizeOf32
 v24:=Tryz.zeroValue32
 t40:=Tryz.underlying165
 a40:=Tryz.isAgg165
 z40:=Tryz.sizeOf165
 v40:=Tryz.zeroValue165 }
end
section
open Go.RowKit
theorem own_snoc {α:Type} {enc:α→List Value} {W:World} {base k c:Nat} {e:TypeId} {A:Option Addr} {l:List α} {t:α} (h:W.ownsRow base e k (.slice A (l.length+1) c) (l.length+1) (cellsOf enc l++enc t)) :
 W.ownsRow base e k (.slice A (l.length+1) c) (l++[t]).length (cellsOf enc (l++[t])):=by
 rw [List.length_append,List.length_singleton,cellsOf_append]
 have:cellsOf enc [t]=enc t:=by simp [cellsOf]
 rw [this]
 exact h
structure TRow {α:Type} (T:TypeId) (kk:Nat) (enc:α→List Value) (w0:World) (b n p d:Nat) (w:World) (v:Value) (l:List α) (W:World):Prop where
 nx:TNx w0 b n p d w W
 own:W.ownsRow w.heap.size T kk v l.length (cellsOf enc l)
 lo:w0.heap.size≤w.heap.size
section
variable {α:Type} {T:TypeId} {kk:Nat} {enc:α→List Value} {w0 w W W1 W2:World} {b n p d d':Nat} {v:Value} {l:List α}
theorem TRow.far (h:TRow T kk enc w0 b n p d w v l W):v.ownBlock≠some b:=fun e=>by
 have h1:=(h.own.lt b e).1
 have h2:=h.nx.st.lt
 have h3:=h.lo
 omega
theorem TRow.go (h:TRow T kk enc w0 b n p d w v l W) (hT:TNx w0 b n p d' W W1):TRow T kk enc w0 b n p d' w v l W1:=⟨h.nx.trans hT,h.own.kept hT.gr (Or.inr h.far),h.lo⟩
theorem TRow.below (h:TRow T kk enc w0 b n p d w v l W) (hb:Below W.heap.size W W1):TRow T kk enc w0 b n p d w v l W1 :=
 ⟨h.nx.grownR (grown_below hb none) (fun _ e=>by cases e),h.own.kept (grown_below hb none) (by cases hv:v.ownBlock <;> simp),h.lo⟩
theorem TRow.alloc (h:TRow T kk enc w0 b n p d w v l W) (o:Obj):TRow T kk enc w0 b n p d w v l (W.alloc o):=h.below ((Below.refl _ _).alloc (Nat.le_refl _) _)
theorem TRow.more (h:TRow T kk enc w0 b n p d w v l W) (hd:d≤d'):TRow T kk enc w0 b n p d' w v l W:=⟨h.nx.more hd,h.own,h.lo⟩
theorem TRow.snoc {A:Option Addr} {c:Nat} {t:α} (h:TRow T kk enc w0 b n p d w v l W) (hown:W2.ownsRow w.heap.size T kk (.slice A (l.length+1) c) (l.length+1) (cellsOf enc l++enc t)) (hg:W.grownBy W2 v.ownBlock):TRow T kk enc w0 b n p d w (.slice A (l.length+1) c) (l++[t]) W2 :=
 ⟨h.nx.grownR hg (fun j e=>by have:=(h.own.lt j e).1;have:=h.lo;omega),own_snoc hown,h.lo⟩
theorem TNx.refl (h:TSt w0 b n p d w):TNx w0 b n p d w w:=⟨h,grown_refl _ _⟩
theorem TRow.start (h:TSt w0 b n p d w):TRow T kk enc w0 b n p d w (.slice none 0 0) [] w:=⟨TNx.refl h,World.ownsRow_nil _ _ _ _,h.size⟩
end
end
end Go.Proofs.YtobcmlmbblgcdaaGreatDoor

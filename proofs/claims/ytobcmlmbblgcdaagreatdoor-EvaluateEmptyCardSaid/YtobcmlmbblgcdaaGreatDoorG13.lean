/-
  Devices and trees as they lie in memory; the program's copied and Find.
  Drafts as they lie in memory.
  Contracts of the program's Find over a tree.
  Contracts of the program's look, the view of a tree, and of Origin.
  slices.IndexFunc and slices.ContainsFunc over texts, for predicates that may lay memory of their own.
  The program's view of a tree: find, and the iterator up.
  Contract of the program's Ancestors.
  Contract of slices.BinarySearch over a row of texts that ascends.
  Contract of evaluate's value.
-/
import Derived.Test.YtobcmlmbblgcdaaGreatDoorG05
import Derived.Test.YtobcmlmbblgcdaaGreatDoorG01
import Derived.Test.YtobcmlmbblgcdaaGreatDoorG00
import Derived.Test.YtobcmlmbblgcdaaGreatDoorG03
import Derived.Test.YtobcmlmbblgcdaaGreatDoorMapI
import Derived.Maps.OwnSet
import Derived.RangeFuncKeeps
import Derived.RangeFuncNested
import Derived.RangeFuncBound
import Derived.RangeFuncCalls
import Derived.RangeFuncLeaves
import Derived.Shelf.Abstract
import Derived.Shelf.RegionOpen
import Derived.OwnWalkIn
import Derived.TacticsInMore
import Derived.LoopNIn
import Derived.LoopIn
import Derived.Maps.AppendAt
import Derived.RangeFuncFrom
import Derived.RangeFuncBox
import Derived.Deep.RegionHeld3
namespace Go.Proofs.YtobcmlmbblgcdaaGreatDoor
set_option maxRecDepth 100000
section
open Go.RowKit Go.Shelf
abbrev devT:TypeId:=67
theorem devSize:(Tryz.prog.info? 67).map (·.size)=some 10:=by kernel_rfl
def dvA (d:Dv):Array Value:=#[.int .i64 d.ix,.int .i64 d.pa,.string d.nam,.string d.og,.string d.sb,.string d.dr,.string d.al,.int .i64 d.kd,.int .i64 d.nb,.slice d.ats.A d.ats.l.length d.ats.c]
theorem dvA_one (d:Dv):(dvA d).all (·.oneCell')=true:=by simp [dvA,Value.oneCell']
theorem encDv_len (d:Dv):(encDv d).length=10:=rfl
theorem box10 {W:World} {g:Nat} {T:TypeId} {a0 a1 a2 a3 a4 a5 a6 a7 a8 a9:Value} (h:W.heap[g]? = some (.cells #[a0,a1,a2,a3,a4,a5,a6,a7,a8,a9] T (0,0))) :
 (W.cell? ⟨g,0,none⟩=some a0∧W.cell? ⟨g,1,none⟩=some a1∧W.cell? ⟨g,2,none⟩=some a2∧W.cell? ⟨g,3,none⟩=some a3∧W.cell? ⟨g,4,none⟩=some a4∧W.cell? ⟨g,5,none⟩=some a5∧W.cell? ⟨g,6,none⟩=some a6∧W.cell? ⟨g,7,none⟩=some a7∧W.cell? ⟨g,8,none⟩=some a8∧W.cell? ⟨g,9,none⟩=some a9)∧∀ j,W.frozen? ⟨g,j,none⟩=false :=
 ⟨⟨cellOf h rfl,cellOf h rfl,cellOf h rfl,cellOf h rfl,cellOf h rfl,cellOf h rfl,cellOf h rfl,cellOf h rfl,cellOf h rfl,cellOf h rfl⟩,fun _=>frozen_of_row _ _ _ _ _ h⟩
abbrev DvN (w:World) (d:Dv):Prop:=RowN w d.ats.A 2 d.ats.l.length (cellsOf encAt d.ats.l)
structure TrN (w:World) (A:Option Addr) (ds:List Dv):Prop where
 row:RowN w A 10 ds.length (cellsOf encDv ds)
 inn:∀ d∈ds,DvN w d
 len:ds.length≤1000
 al:∀ d∈ds,d.ats.l.length≤1000
theorem TrN.keep {w w':World} {A:Option Addr} {ds:List Dv} (h:TrN w A ds) (hb:Below w.heap.size w w'):TrN w' A ds:=⟨h.row.keep hb,fun d hd=>(h.inn d hd).keep hb,h.len,h.al⟩
def trV (A:Option Addr) (ds:List Dv) (c:Nat):Value:=.agg #[.slice A ds.length c]
def dsD (ds:List Dv):List Dd:=ds.map Dv.d
def SomeDvP (d:Dd) (w:World) (x:Dv) (w':World):Prop:=x.d=d∧DvN w' x∧From w.heap.size x.ats.A∧Below w.heap.size w w'
theorem bAl {w W:World} {o:Obj} (h:Below w.heap.size w W):Below w.heap.size w (W.alloc o):=h.alloc h.size _
theorem bDr {w W:World} (h:Below w.heap.size w W):Below w.heap.size w W.drew:=h.drew
theorem bRow {w W:World} {g:Nat} {cs:Array Value} (h:Below w.heap.size w W) (hg:w.heap.size≤g):Below w.heap.size w (W.setRow g cs):=h.grown (grown_setRow _ _ _) h.size (fun j e=>by cases e;exact hg)
theorem bCell {w W:World} {g i:Nat} {u:Value} (h:Below w.heap.size w W) (hg:w.heap.size≤g):Below w.heap.size w (W.setCell ⟨g,i,none⟩ u):=h.grown (grown_set _ _ _ _) h.size (fun j e=>by cases e;exact hg)
abbrev dv0:Dv:=⟨0,0,⟨#[]⟩,⟨#[]⟩,⟨#[]⟩,⟨#[]⟩,⟨#[]⟩,0,0,⟨none,0,[]⟩⟩
theorem From.mono {B C:Nat} {A:Option Addr} (h:From C A) (hB:B≤C):From B A:=fun a e=>Nat.le_trans hB (h a e)
set_option maxHeartbeats 2000000 in
theorem Copied4_any (d:Dv) (w:World) (h:DvN w d) (hl:d.ats.l.length≤1000) :
 Calls Tryz.prog 69 #[dvV d] w fun e w'=>∃ x,e=.returned (dvV x)∧SomeDvP d.d w x w':=by
 obtain ⟨w1,hw1⟩:∃ w1,(w.alloc (.cells (dvA d) devT)).alloc (.cells (dvA dv0) devT)=w1:=⟨_,rfl⟩
 have hB:Below w.heap.size w w1:=by rw [←hw1];exact bAl (below_alloc _ _)
 have h1:w1.heap[w.heap.size]? = some (.cells (dvA d) devT (0,0)):=by rw [←hw1,heap_alloc_old _ _ (by simp)];exact heap_alloc_new _ _
 have h2:w1.heap[w.heap.size+1]? = some (.cells (dvA dv0) devT (0,0)):=by
  rw [←hw1]
  have:=heap_alloc_new (w.alloc (.cells (dvA d) devT)) (.cells (dvA dv0) devT)
  simpa using this
 have HC:=Lib.hid (CloneA_any d.ats.A d.ats.c d.ats.l w1 (by omega) (h.keep hB))
 have HB:=Lib.hid hB
 have H1:=Lib.hid h1
 have H2:=Lib.hid h2
 have HW:=Lib.hid hw1
 obtain ⟨⟨c0,c1,c2,c3,c4,c5,c6,c7,c8,c9⟩,_⟩:=box10 h1
 clear h hB h1 h2 hw1
 unfold dvV
 go_enter Tryz.func69,Tryz.ntmps69
 go_upto_region 1 with fail
 rw [show (w.alloc (.cells #[.int .i64 d.ix,.int .i64 d.pa,.string d.nam,.string d.og,.string d.sb,.string d.dr,.string d.al,.int .i64 d.kd,.int .i64 d.nb,.slice d.ats.A d.ats.l.length d.ats.c] 67)).alloc (.cells #[.int .i64 0,.int .i64 0,.string ⟨#[]⟩,.string ⟨#[]⟩,.string ⟨#[]⟩,.string ⟨#[]⟩,.string ⟨#[]⟩,.int .i64 0,.int .i64 0,.slice none 0 0] 67)=w1 from HW.out]
 go_wp2_with (first
  | (go_at_call 50;refine HC.out.mono ?_;rintro e w2 ⟨A2,n2,rfl,hown,hb2⟩;have HO:=Lib.hid hown;have HB2:=Lib.hid hb2;have hx1:=(hb2.block _ (blk_lt' H1.out)).trans H1.out;have hx2:=(hb2.block _ (blk_lt' H2.out)).trans H2.out;have HX2:=Lib.hid ((heap_setCell_other w2 ⟨w.heap.size,9,none⟩ (w.heap.size+1) (.slice A2 d.ats.l.length n2) (by show _≠w.heap.size;omega)).trans hx2);clear hown hb2 hx2;obtain ⟨⟨d0,d1,d2,d3,d4,d5,d6,d7,d8,d9⟩,z9⟩:=box10 hx1;clear hx1)
  | (refine wpList_store_row rfl 67 _ _ rfl _ _ rfl rfl _ _ HX2.out (by exact devSize) rfl (by simp [Value.oneCell']) ?_))
 refine post_cellrow rfl (by rfl) HX2.out Tryz.underlying67 rfl (by exact devSize) (by rfl) ?_
 have hBB:=bt HB.out HB2.out
 have hN:=RowN.of_own HO.out
 have hsz:w1.heap.size=w.heap.size+2:=by rw [←HW.out];simp
 refine ⟨⟨d.ix,d.pa,d.nam,d.og,d.sb,d.dr,d.al,d.kd,d.nb,⟨A2,n2,d.ats.l⟩⟩,rfl,rfl,?_,?_,bRow (bCell hBB (Nat.le_refl _)) (Nat.le_succ _)⟩
 · refine (hN.1.grown (grown_set w2 w.heap.size 9 _) (fun a e h=>?_)).grown (grown_setRow _ (w.heap.size+1) _) (fun a e h=>?_)
   · have h1:=hN.2 a e;have h2:=Option.some.inj h;omega
   · have h1:=hN.2 a e;have h2:=Option.some.inj h;omega
 · exact hN.2.mono (HB.out.size)
theorem SomeDvP.row {d:Dd} {w w2 w3:World} {y:Dv} {g:Nat} {cs:Array Value} (h:SomeDvP d w2 y w3) (hb:Below w.heap.size w w2) (h1:w.heap.size≤g) (h2:g<w2.heap.size):SomeDvP d w y (w3.setRow g cs) :=
 ⟨h.1,h.2.1.grown (grown_setRow _ _ _) (fun a e h3=>by have h4:=h.2.2.1 a e;have h5:=Option.some.inj h3;omega),h.2.2.1.mono hb.size,bRow (bt hb h.2.2.2) h1⟩
theorem findC_any (n:Int) (B:Nat) (w:World) (hB:B<w.heap.size) (hc:w.cell? ⟨B,0,none⟩=some (.int .i64 n)) :
 PredBelow Tryz.prog 49 #[.pointer (some ⟨B,0,none⟩)] (fun d=>.agg (encDv d).toArray) (fun d:Dv=>d.ix == n) w:=fun W d hb=>by
 have hcW:W.cell? ⟨B,0,none⟩=some (.int .i64 n):=(hb.cell (p:=⟨B,0,none⟩) hB).trans hc
 have hBW:B<W.heap.size:=Nat.lt_of_lt_of_le hB hb.size
 have hne:B≠W.heap.size:=by omega
 show Calls Tryz.prog 49 #[.agg #[.int .i64 d.ix,.int .i64 d.pa,.string d.nam,.string d.og,.string d.sb,.string d.dr,.string d.al,.int .i64 d.kd,.int .i64 d.nb,.slice d.ats.A d.ats.l.length d.ats.c],.pointer (some ⟨B,0,none⟩)] W _
 go_enter Tryz.func49,Tryz.ntmps49
 go_wp2
 all_goals (go_ret;exact ⟨by first | rfl | simp,hb.alloc hb.size _⟩)
theorem dsD_len (ds:List Dv):(dsD ds).length=ds.length:=by simp [dsD]
theorem find_idx (ds:List Dv) (n:Int):findD (dsD ds) n=(ds.find? fun d=>d.ix == n).map Dv.d:=by
 unfold findD dsD
 rw [List.find?_map]
 rfl
instance:Inhabited Dv:=⟨dv0⟩
theorem TrN.cells {w:World} {A:Option Addr} {ds:List Dv} (h:TrN w A ds) (hn:0<ds.length):∃ b off,A=some ⟨b,off,none⟩∧b<w.heap.size∧∀ j,j<ds.length→∀ i v,(encDv ds[j]!)[i]? = some v→w.cell? ⟨b,off+j*10+i,none⟩=some v:=by
 obtain ⟨b,off,rfl,hb,hc⟩:=h.row.row.cell encDv_len hn
 refine ⟨b,off,rfl,hb,fun j hj i v hv=>?_⟩
 rw [Nat.add_assoc]
 refine hc j ds[j]! ?_ i v hv
 rw [getElem!_pos ds j hj,List.getElem?_eq_getElem hj]
def FindP (o:Option Dd) (w:World) (e:Ending) (w':World):Prop:=match o with
 | some d=>∃ x,e=.returned (.tuple #[dvV x,.bool true])∧SomeDvP d w x w'
 | none=>e=.returned (.tuple #[dvV dv0,.bool false])∧Below w.heap.size w w'
end
section
open Go.RowKit
abbrev attT:TypeId:=104
abbrev strT:TypeId:=9
abbrev trmT:TypeId:=46
abbrev drT:TypeId:=52
abbrev edT:TypeId:=84
structure Dm where
 props:Ls At
 tags:Ls Str
 links:Ls Str
 run:Ls Str
 load:Ls Str
 nam:ByteArray
 prio:Int
 own:ByteArray
 grp:ByteArray
 mode:Int
 res:ByteArray
 calls:Int
 ticks:Int
 closed:Ls Tm
def Dm.d (x:Dm):Dr:=⟨x.props.l,x.tags.l,x.links.l,x.run.l,x.load.l,x.nam,x.prio,x.own,x.grp,x.mode,x.res,x.calls,x.ticks,x.closed.l⟩
def drA (x:Dm):Array Value:=#[.slice x.props.A x.props.l.length x.props.c,.slice x.tags.A x.tags.l.length x.tags.c,.slice x.links.A x.links.l.length x.links.c,.slice x.run.A x.run.l.length x.run.c,.slice x.load.A x.load.l.length x.load.c,.string x.nam,.int .i64 x.prio,.string x.own,.string x.grp,.int .i64 x.mode,.string x.res,.int .i64 x.calls,.int .i64 x.ticks,.slice x.closed.A x.closed.l.length x.closed.c]
structure DmN (w:World) (x:Dm):Prop where
 pr:LsN 2 encAt w x.props
 tg:LsN 1 encS w x.tags
 lk:LsN 1 encS w x.links
 rn:LsN 1 encS w x.run
 ld:LsN 1 encS w x.load
 cl:LsN 4 encTm w x.closed
theorem DmN.keep {w w':World} {x:Dm} (h:DmN w x) (hb:Below w.heap.size w w'):DmN w' x:=⟨h.pr.keep hb,h.tg.keep hb,h.lk.keep hb,h.rn.keep hb,h.ld.keep hb,h.cl.keep hb⟩
structure DmZ (x:Dr):Prop where
 pr:x.props.length≤1000
 tg:x.tags.length≤1000
 lk:x.links.length≤1000
 rn:x.run.length≤1000
 ld:x.load.length≤1000
 cl:x.closed.length≤100000
def Apart (l:List (Option Addr)):Prop:=l.Pairwise fun a b=>∀ p q,a=some p→b=some q→p.block≠q.block
def Dm.as (x:Dm):List (Option Addr):=[x.props.A,x.tags.A,x.links.A,x.run.A,x.load.A,x.closed.A]
structure DmO (B:Nat) (w:World) (x:Dm):Prop where
 pr:w.ownsRow B attT 2 (.slice x.props.A x.props.l.length x.props.c) x.props.l.length (cellsOf encAt x.props.l)
 tg:w.ownsRow B strT 1 (.slice x.tags.A x.tags.l.length x.tags.c) x.tags.l.length (cellsOf encS x.tags.l)
 lk:w.ownsRow B strT 1 (.slice x.links.A x.links.l.length x.links.c) x.links.l.length (cellsOf encS x.links.l)
 rn:w.ownsRow B strT 1 (.slice x.run.A x.run.l.length x.run.c) x.run.l.length (cellsOf encS x.run.l)
 ld:w.ownsRow B strT 1 (.slice x.load.A x.load.l.length x.load.c) x.load.l.length (cellsOf encS x.load.l)
 cl:w.ownsRow B trmT 4 (.slice x.closed.A x.closed.l.length x.closed.c) x.closed.l.length (cellsOf encTm x.closed.l)
 ne:Apart x.as
theorem DmO.n {B:Nat} {w:World} {x:Dm} (h:DmO B w x):DmN w x:=⟨(LsN.of_own h.pr).1,(LsN.of_own h.tg).1,(LsN.of_own h.lk).1,(LsN.of_own h.rn).1,(LsN.of_own h.ld).1,(LsN.of_own h.cl).1⟩
theorem DmO.below {B:Nat} {w w':World} {x:Dm} (h:DmO B w x) (hb:Below w.heap.size w w'):DmO B w' x:=⟨own_below2 h.pr hb,own_below2 h.tg hb,own_below2 h.lk hb,own_below2 h.rn hb,own_below2 h.ld hb,own_below2 h.cl hb,h.ne⟩
theorem DmO.base {B C:Nat} {w:World} {x:Dm} (h:DmO B w x) (hc:C≤B):DmO C w x:=⟨own_base h.pr hc,own_base h.tg hc,own_base h.lk hc,own_base h.rn hc,own_base h.ld hc,own_base h.cl hc,h.ne⟩
theorem drSize:(Tryz.prog.info? 52).map (·.size)=some 14:=by kernel_rfl
theorem drA_one (x:Dm):(drA x).all (·.oneCell')=true:=by simp [drA,Value.oneCell']
theorem box14 {W:World} {g:Nat} {T:TypeId} {a0 a1 a2 a3 a4 a5 a6 a7 a8 a9 aa ab ac ad:Value} (h:W.heap[g]? = some (.cells #[a0,a1,a2,a3,a4,a5,a6,a7,a8,a9,aa,ab,ac,ad] T (0,0))) :
 W.cell? ⟨g,0,none⟩=some a0∧W.cell? ⟨g,1,none⟩=some a1∧W.cell? ⟨g,2,none⟩=some a2∧W.cell? ⟨g,3,none⟩=some a3∧W.cell? ⟨g,4,none⟩=some a4∧W.cell? ⟨g,5,none⟩=some a5∧W.cell? ⟨g,6,none⟩=some a6∧W.cell? ⟨g,7,none⟩=some a7∧W.cell? ⟨g,8,none⟩=some a8∧W.cell? ⟨g,9,none⟩=some a9∧W.cell? ⟨g,10,none⟩=some aa∧W.cell? ⟨g,11,none⟩=some ab∧W.cell? ⟨g,12,none⟩=some ac∧W.cell? ⟨g,13,none⟩=some ad :=
 ⟨cellOf h rfl,cellOf h rfl,cellOf h rfl,cellOf h rfl,cellOf h rfl,cellOf h rfl,cellOf h rfl,cellOf h rfl,cellOf h rfl,cellOf h rfl,cellOf h rfl,cellOf h rfl,cellOf h rfl,cellOf h rfl⟩
theorem row_setCell {w:World} {g i:Nat} {cs:Array Value} {t:TypeId} (h:w.heap[g]? = some (.cells cs t (0,0))) (v:Value):(w.setCell ⟨g,i,none⟩ v).heap[g]? = some (.cells (cs.setIfInBounds i v) t (0,0)):=heap_setCell_same _ _ _ _ _ _ h
end
section
open Go.RowKit Go.Shelf
theorem TrN.ten {w:World} {A:Option Addr} {ds:List Dv} (h:TrN w A ds) {k:Nat} {x:Dv} (hx:ds[k]? = some x):∃ b off,A=some ⟨b,off,none⟩∧b<w.heap.size∧∀ W,Below w.heap.size w W →
 W.cell? ⟨b,off+k*10,none⟩=some (.int .i64 x.ix)∧W.cell? ⟨b,off+k*10+1,none⟩=some (.int .i64 x.pa)∧W.cell? ⟨b,off+k*10+2,none⟩=some (.string x.nam)∧W.cell? ⟨b,off+k*10+3,none⟩=some (.string x.og)∧W.cell? ⟨b,off+k*10+4,none⟩=some (.string x.sb)∧W.cell? ⟨b,off+k*10+5,none⟩=some (.string x.dr)∧W.cell? ⟨b,off+k*10+6,none⟩=some (.string x.al)∧W.cell? ⟨b,off+k*10+7,none⟩=some (.int .i64 x.kd)∧W.cell? ⟨b,off+k*10+8,none⟩=some (.int .i64 x.nb)∧W.cell? ⟨b,off+k*10+9,none⟩=some (.slice x.ats.A x.ats.l.length x.ats.c):=by
 obtain ⟨hk,rfl⟩:=List.getElem?_eq_some_iff.1 hx
 obtain ⟨b,off,rfl,hb,hc⟩:=h.row.row.cell encDv_len hk
 have g:∀ W,Below w.heap.size w W→∀ i v,(encDv ds[k])[i]? = some v→W.cell? ⟨b,off+k*10+i,none⟩=some v:=fun W hW i v hv=>by
  rw [hW.cell (p:=⟨b,off+k*10+i,none⟩) hb,Nat.add_assoc]
  exact hc k _ hx i v hv
 exact ⟨b,off,rfl,hb,fun W hW=>⟨g W hW 0 _ rfl,g W hW 1 _ rfl,g W hW 2 _ rfl,g W hW 3 _ rfl,g W hW 4 _ rfl,g W hW 5 _ rfl,g W hW 6 _ rfl,g W hW 7 _ rfl,g W hW 8 _ rfl,g W hW 9 _ rfl⟩⟩
theorem IndexV_none (A:Option Addr) (c:Nat) (fv:Value) (w:World):Calls Tryz.prog 68 #[.slice A 0 c,fv] w fun e w'=>e=.returned (.int .i64 (-1))∧w'=w:=by
 go_enter Tryz.func68,Tryz.ntmps68
 go_wp2
 go_loopg [5,8] 0 (fun _ _ s8 wr=>s8=.int .i64 0∧wr=w)
 case atStart=>exact ⟨rfl,rfl⟩
 case round =>
  obtain ⟨rfl,rfl⟩:=hrel
  go_wp2
  go_ret
  exact ⟨rfl,rfl⟩
theorem IndexV_any (g:Nat) (lb:Array Value) (q:Dv→Bool) (eg:∀ args w,(callFunc g args).run Tryz.prog w=.ok (.enter g args) w) (A:Option Addr) (c:Nat) (ds:List Dv) (w:World) (h:TrN w A ds) (hp:PredBelow Tryz.prog g lb (fun d=>.agg (encDv d).toArray) q w) :
 Calls Tryz.prog 68 #[.slice A ds.length c,.func (.func g) #[] lb] w fun e w'=>e=.returned (.int .i64 (Lib.idxBy (fun _ y=>q y) ds default))∧Below w.heap.size w w':=by
 rcases Nat.eq_zero_or_pos ds.length with e | e
 · obtain rfl:ds=[]:=List.length_eq_zero_iff.1 e
   refine (IndexV_none A c _ w).mono ?_
   rintro e w' ⟨rfl,rfl⟩
   exact ⟨rfl,Below.refl _ _⟩
 · obtain ⟨b,off,rfl,hb,hc⟩:=h.cells e
   have:=AnyQ.slices_IndexFunc laysIxV 10 Tryz.isAgg67 Tryz.sizeOf67 encDv encDv_len q g lb eg b off ds.length c ds w hp (Nat.le_refl _) (by have:=h.len;omega) hb hc
   rw [List.take_length] at this
   exact this
set_option maxHeartbeats 2000000 in
theorem First_any (A:Option Addr) (c:Nat) (ds:List Dv) (n:Int) (B:Nat) (w:World) (h:TrN w A ds) (hB:B<w.heap.size) (hc:w.cell? ⟨B,0,none⟩=some (.int .i64 n)) :
 Calls Tryz.prog 48 #[trV A ds c,.func (.func 49) #[] #[.pointer (some ⟨B,0,none⟩)]] w (FindP (findD (dsD ds) n) w):=by
 have eg:∀ args w,(callFunc 49 args).run Tryz.prog w=.ok (.enter 49 args) w:=enters_of Tryz.func49 (by kernel_rfl) rfl
 obtain ⟨w1,hw1⟩:∃ w1,(w.alloc (.cells #[.slice A ds.length c] 30)).alloc (.cells (dvA dv0) devT)=w1:=⟨_,rfl⟩
 have hB1:Below w.heap.size w w1:=by rw [←hw1];exact bAl (below_alloc _ _)
 have h1:w1.heap[w.heap.size]? = some (.cells #[.slice A ds.length c] 30 (0,0)):=by rw [←hw1,heap_alloc_old _ _ (by simp)];exact heap_alloc_new _ _
 have h2:w1.heap[w.heap.size+1]? = some (.cells (dvA dv0) devT (0,0)):=by
  rw [←hw1]
  have:=heap_alloc_new (w.alloc (.cells #[.slice A ds.length c] 30)) (.cells (dvA dv0) devT)
  simpa using this
 have HI:=Lib.hid (IndexV_any 49 #[.pointer (some ⟨B,0,none⟩)] (fun d:Dv=>d.ix == n) eg A c ds w1 (h.keep hB1) (findC_any n B w1 (Nat.lt_of_lt_of_le hB hB1.size) ((hB1.cell (p:=⟨B,0,none⟩) hB).trans hc)))
 have HB:=Lib.hid hB1
 have H1:=Lib.hid h1
 have H2:=Lib.hid h2
 have HW:=Lib.hid hw1
 have HT:=Lib.hid h
 have c0:=cellOf (j:=0) h1 rfl
 have hlen:=h.len
 have hfi:=find_idx ds n
 have hcs:=idx_cases (fun d:Dv=>d.ix == n) ds
 clear h hB1 h1 h2 hw1 hc hB eg
 unfold trV
 generalize Lib.idxBy (fun _ y=>(fun d:Dv=>d.ix == n) y) ds default=ix at *
 rcases hcs with ⟨k,x,hx,rfl,hf⟩ | ⟨rfl,hf⟩
 · rw [hf] at hfi
   rw [hfi]
   obtain ⟨b,off,rfl,hb,hten⟩:=HT.out.ten hx
   have hk:=(List.getElem?_eq_some_iff.1 hx).1
   have HIn:=Lib.hid (HT.out.inn x (List.mem_of_getElem? hx))
   have hal:=HT.out.al x (List.mem_of_getElem? hx)
   have HCp:=Lib.hid (fun W (hW:Below w.heap.size w W)=>Copied4_any x W (HIn.out.keep hW) hal)
   have HTen:=Lib.hid hten
   generalize ds.length=N at *
   clear hf hfi hx hten hb
   have hkI:(k:Int)<(N:Int):=by omega
   go_enter Tryz.func48,Tryz.ntmps48
   go_upto_region 1 with fail
   rw [show (w.alloc (.cells #[.slice (some ⟨b,off,none⟩) N c] 30)).alloc (.cells #[.int .i64 0,.int .i64 0,.string ⟨#[]⟩,.string ⟨#[]⟩,.string ⟨#[]⟩,.string ⟨#[]⟩,.string ⟨#[]⟩,.int .i64 0,.int .i64 0,.slice none 0 0] 67)=w1 from HW.out]
   go_wp2_with (first
    | (go_at_call 68;refine HI.out.mono ?_;rintro e w2 ⟨rfl,hb2⟩;have HB2:=Lib.hid hb2;have d0:=cellOf (j:=0) ((hb2.block _ (blk_lt' H1.out)).trans H1.out) rfl;have hx2:=(hb2.block _ (blk_lt' H2.out)).trans H2.out;have HX2:=Lib.hid hx2;clear hb2 hx2;obtain ⟨e0,e1,e2,e3,e4,e5,e6,e7,e8,e9⟩:=HTen.out w2 (bt HB.out HB2.out))
    | (go_at_call 69;refine (HCp.out _ (bt HB.out HB2.out)).mono ?_;rintro e w3 ⟨y,rfl,hy⟩;have HY:=Lib.hid hy;have hx3:=(hy.2.2.2.block _ (blk_lt' HX2.out)).trans HX2.out;have HX3:=Lib.hid hx3;clear hy hx3;unfold dvV)
    | (refine wpList_store_row rfl 67 _ _ rfl _ _ rfl rfl _ _ HX3.out (by exact devSize) rfl (by simp [Value.oneCell']) ?_))
   refine post_cr2 rfl (by rfl) (by rfl) (setRow_heap _ _ _ _ _ _ HX3.out) Tryz.underlying67 rfl (by exact devSize) (by rfl) ?_
   have hs2:=blk_lt' HX2.out
   exact ⟨y,rfl,HY.out.row (bt HB.out HB2.out) (Nat.le_succ _) hs2⟩
 · rw [hf] at hfi
   rw [hfi]
   generalize ds.length=N at *
   clear hf hfi
   go_enter Tryz.func48,Tryz.ntmps48
   go_upto_region 1 with fail
   rw [show (w.alloc (.cells #[.slice A N c] 30)).alloc (.cells #[.int .i64 0,.int .i64 0,.string ⟨#[]⟩,.string ⟨#[]⟩,.string ⟨#[]⟩,.string ⟨#[]⟩,.string ⟨#[]⟩,.int .i64 0,.int .i64 0,.slice none 0 0] 67)=w1 from HW.out]
   go_wp2_with (first
    | (go_at_call 68;refine HI.out.mono ?_;rintro e w2 ⟨rfl,hb2⟩;have HB2:=Lib.hid hb2;have hx2:=(hb2.block _ (blk_lt' H2.out)).trans H2.out;have HX2:=Lib.hid hx2;clear hb2 hx2)
    | (refine wpList_store_row rfl 67 _ _ rfl _ _ rfl rfl _ _ HX2.out (by exact devSize) rfl (by simp [Value.oneCell']) ?_))
   refine post_cr2 rfl (by rfl) (by rfl) (setRow_heap _ _ _ _ _ _ HX2.out) Tryz.underlying67 rfl (by exact devSize) (by rfl) ?_
   exact ⟨rfl,bRow (bt HB.out HB2.out) (Nat.le_succ _)⟩
set_option maxHeartbeats 1000000 in
theorem Find_any (A:Option Addr) (c:Nat) (ds:List Dv) (n:Int) (w:World) (h:TrN w A ds) :
 Calls Tryz.prog 29 #[trV A ds c,.int .i64 n] w (FindP (findD (dsD ds) n) w):=by
 obtain ⟨hs1,_,k1,k2,hB⟩:=alloc3 w (.cells #[.slice A ds.length c] 30) (.cells #[.int .i64 n] 3) (.cells (dvA dv0) devT)
 obtain ⟨w1,hw1⟩:∃ w1,((w.alloc (.cells #[.slice A ds.length c] 30)).alloc (.cells #[.int .i64 n] 3)).alloc (.cells (dvA dv0) devT)=w1:=⟨_,rfl⟩
 rw [hw1] at hs1 k1 k2 hB
 have HF:=Lib.hid (First_any A c ds n (w.heap.size+1) w1 (h.keep hB) (by omega) (cellOf k1 rfl))
 have HB:=Lib.hid hB
 have HW:=Lib.hid hw1
 have H2:=Lib.hid k2
 clear h hB hw1 k1 k2
 generalize findD (dsD ds) n=o at *
 unfold trV at *
 generalize ds.length=N at *
 cases o with
 | some d =>
   go_enter Tryz.func29,Tryz.ntmps29
   go_wp2_with fail
   rw [show ((w.alloc (.cells #[.slice A N c] 30)).alloc (.cells #[.int .i64 n] 3)).alloc (.cells #[.int .i64 0,.int .i64 0,.string ⟨#[]⟩,.string ⟨#[]⟩,.string ⟨#[]⟩,.string ⟨#[]⟩,.string ⟨#[]⟩,.int .i64 0,.int .i64 0,.slice none 0 0] 67)=w1 from HW.out]
   refine HF.out.mono ?_
   rintro e w2 ⟨y,rfl,hy⟩
   have hx2:=(hy.2.2.2.block _ (blk_lt' H2.out)).trans H2.out
   have HX2:=Lib.hid hx2
   have HY:=Lib.hid hy
   clear hy hx2
   unfold dvV
   go_wp2_with (refine wpList_store_row rfl 67 _ _ rfl _ _ rfl rfl _ _ HX2.out (by exact devSize) rfl (by simp [Value.oneCell']) ?_)
   refine post_cr2 rfl (by rfl) (by rfl) (setRow_heap _ _ _ _ _ _ HX2.out) Tryz.underlying67 rfl (by exact devSize) (by rfl) ?_
   exact ⟨y,rfl,HY.out.row HB.out (by omega) (by omega)⟩
 | none =>
   go_enter Tryz.func29,Tryz.ntmps29
   go_wp2_with fail
   rw [show ((w.alloc (.cells #[.slice A N c] 30)).alloc (.cells #[.int .i64 n] 3)).alloc (.cells #[.int .i64 0,.int .i64 0,.string ⟨#[]⟩,.string ⟨#[]⟩,.string ⟨#[]⟩,.string ⟨#[]⟩,.string ⟨#[]⟩,.int .i64 0,.int .i64 0,.slice none 0 0] 67)=w1 from HW.out]
   refine HF.out.mono ?_
   rintro e w2 ⟨rfl,hb2⟩
   have hx2:=(hb2.block _ (blk_lt' H2.out)).trans H2.out
   have HX2:=Lib.hid hx2
   have HB2:=Lib.hid (bt HB.out hb2)
   clear hb2 hx2
   unfold dvV
   go_wp2_with (refine wpList_store_row rfl 67 _ _ rfl _ _ rfl rfl _ _ HX2.out (by exact devSize) rfl (by simp [Value.oneCell']) ?_)
   refine post_cr2 rfl (by rfl) (by rfl) (setRow_heap _ _ _ _ _ _ HX2.out) Tryz.underlying67 rfl (by exact devSize) (by rfl) ?_
   exact ⟨rfl,bRow HB2.out (by omega)⟩
end
section
open Go.RowKit Go.Shelf Go.Maps
theorem viewSize:(Tryz.prog.info? 118).map (·.size)=some 3:=by kernel_rfl
theorem lawI:Keyed Tryz.prog 3:=int_keyed Tryz.underlying3
abbrev mapP (W:World) (b n:Nat) (D:DW):Prop:=W.ownsMap Tryz.prog 3 (plainElem (H:=Unit) Tryz.prog 3) b n D
abbrev mapO (W:World) (b n:Nat) (D:DW):Prop:=W.ownsMap Tryz.prog 3 (plainElem (H:=Unit) Tryz.prog 9) b n D
theorem wfI {a:Int} (h1 : -9223372036854775808≤a) (h2:a≤9223372036854775807):(Lit.int .i64 a).wf=true:=by
 simp [Lit.wf,IntKind.min,IntKind.max,IntKind.signed,IntKind.bits]
 omega
theorem keyI {a:Int} (h1 : -9223372036854775808≤a) (h2:a≤9223372036854775807):keyOf Tryz.prog 3 (.int .i64 a)=some (.int .i64 a):=keyOf_int_mk Tryz.underlying3 (wfI h1 h2)
theorem look_org {W:World} {m n:Nat} {r:List Dd} (h:mapO W m n (kvD (orgR r))) {z:Int} (h1 : -9223372036854775808≤z) (h2:z≤9223372036854775807) :
 (Instr.lookup 116 (.map (some m)) (.int .i64 z) false).run Tryz.prog W=.ok (.string (bs (orgS (chR r z)))) W∧(Instr.lookup 116 (.map (some m)) (.int .i64 z) true).run Tryz.prog W=.ok (.tuple #[.string (bs (orgS (chR r z))),.bool (!(chR r z).isEmpty)]) W:=by
 have hz:(zeroValue 9).run Tryz.prog W=.ok (.string ⟨#[]⟩) W:=Tryz.zeroValue9 W
 have hzd:plainElem (H:=Unit) Tryz.prog 9 (.string ⟨#[]⟩)=some (.lit (.string []),[]):=plainElem_string Tryz.underlying9 (by decide)
 have hat:(kvD (orgR r)).atKey (.int .i64 z) (.lit (.string []))=.lit (.string (orgS (chR r z))):=by
  rw [kvD_at,orgR_at]
  split
  · rename_i e;rw [e];rfl
  · rfl
 have hhas:Maps.has (kvD (orgR r)) (.int .i64 z) = !(chR r z).isEmpty:=by
  rw [kvD_has,orgR_at]
  split
  · rename_i e;rw [e];rfl
  · rename_i e
    cases hc:chR r z with
    | nil=>exact absurd hc e
    | cons a b=>rfl
 have hv0:∀ {v:Value} {ps:List MemPlace},plainElem (H:=Unit) Tryz.prog 9 v=some ((kvD (orgR r)).atKey (.int .i64 z) (.lit (.string [])),ps)→v=.string (bs (orgS (chR r z))):=fun {v ps} hv=>by
  rw [hat] at hv
  obtain ⟨t,rfl,ht,_⟩:=plainElem_string_inv Tryz.underlying9 hv
  have e:orgS (chR r z)=L t:=by simpa [L] using (congrArg Prod.fst ht)
  rw [e,bs_L]
 obtain ⟨v,ps,hrun,hv⟩:=World.ownsMap.lookup h lawI Tryz.underlying116 hz hzd (keyI h1 h2)
 obtain ⟨v',ps',hrun',hv'⟩:=World.ownsMap.look_ok h lawI Tryz.underlying116 hz hzd (keyI h1 h2)
 rw [hv0 hv] at hrun
 rw [hv0 hv',hhas] at hrun'
 exact ⟨hrun,hrun'⟩
structure LkT (w:World) (A:Option Addr) (N c:Nat) (r:List Dd) (W:World):Prop where
 b0:W.heap[w.heap.size]? = some (.cells #[.slice A N c] 30 (0,0))
 b1:W.heap[w.heap.size+1]? = some (.cells #[.slice none 0 0,.map none,.map none] 118 (0,0))
 b4:W.heap[w.heap.size+1+1+1+1]? = some (.cells #[.slice A N c,.map (some (w.heap.size+1+1)),.map (some (w.heap.size+1+1+1))] 118 (0,0))
 pl:mapP W (w.heap.size+1+1) r.length (kvD (plcR r))
 og:mapO W (w.heap.size+1+1+1) r.length (kvD (orgR r))
 low:Below w.heap.size w W
theorem LkT.go {w W W1:World} {A:Option Addr} {N c:Nat} {r:List Dd} (h:LkT w A N c r W) (hb:Below W.heap.size W W1):LkT w A N c r W1 :=
 ⟨(hb.block _ (blk_lt' h.b0)).trans h.b0,(hb.block _ (blk_lt' h.b1)).trans h.b1,(hb.block _ (blk_lt' h.b4)).trans h.b4,h.pl.kept (grown_below hb none) (by simp),h.og.kept (grown_below hb none) (by simp),bt h.low hb⟩
def LookP (A:Option Addr) (c:Nat) (ds:List Dv) (w:World) (e:Ending) (w':World):Prop:=∃ p o,e=.returned (.agg #[.slice A ds.length c,.map (some p),.map (some o)])∧mapP w' p ds.length (kvD (plcR (dsD ds).reverse))∧mapO w' o ds.length (kvD (orgR (dsD ds).reverse))∧Below w.heap.size w w'
structure DdI (d:Dd):Prop where
 ix : -9223372036854775808≤d.ix∧d.ix≤9223372036854775807
 pa : -9223372036854775808≤d.pa∧d.pa≤9223372036854775807
 og:d.og.size≤1000
theorem chR_org {r:List Dd} (h:∀ d∈r,d.og.size≤1000) (n:Int):(orgS (chR r n)).length≤(chR r n).length*1001:=by
 have hm:∀ c:List Dd,(∀ d∈c,d.og.size≤1000)→(orgS c).length≤c.length*1001:=by
  intro c
  induction c with
  | nil=>intro _;simp [orgS_nil]
  | cons d c ih =>
    intro h
    have h1:=ih fun x hx=>h x (List.mem_cons_of_mem _ hx)
    have h2:=h d (List.mem_cons_self ..)
    rw [orgS_cons,List.length_append,List.length_cons,len_L,List.length_cons]
    omega
 exact hm _ fun d hd=>h d (chR_mem _ _ _ hd)
theorem LkT.start (w:World) (A:Option Addr) (N c:Nat):LkT w A N c [] (((((w.alloc (.cells #[.slice A N c] 30)).alloc (.cells #[.slice none 0 0,.map none,.map none] 118)).alloc (.map #[] 0)).alloc (.map #[] 0)).alloc (.cells #[.slice A N c,.map (some (w.heap.size+1+1)),.map (some (w.heap.size+1+1+1))] 118)):=by
 obtain ⟨w1,h1⟩:∃ w1,w.alloc (.cells #[.slice A N c] 30)=w1:=⟨_,rfl⟩
 obtain ⟨w2,h2⟩:∃ w2,w1.alloc (.cells #[.slice none 0 0,.map none,.map none] 118)=w2:=⟨_,rfl⟩
 obtain ⟨w3,h3⟩:∃ w3,w2.alloc (.map #[] 0)=w3:=⟨_,rfl⟩
 obtain ⟨w4,h4⟩:∃ w4,w3.alloc (.map #[] 0)=w4:=⟨_,rfl⟩
 have s1:w1.heap.size=w.heap.size+1:=by rw [←h1];simp
 have s2:w2.heap.size=w.heap.size+1+1:=by rw [←h2];simp [s1]
 have s3:w3.heap.size=w.heap.size+1+1+1:=by rw [←h3];simp [s2]
 have s4:w4.heap.size=w.heap.size+1+1+1+1:=by rw [←h4];simp [s3]
 have b0:w1.heap[w.heap.size]? = some (.cells #[.slice A N c] 30 (0,0)):=by rw [←h1];exact heap_alloc_new _ _
 have b1:w2.heap[w.heap.size+1]? = some (.cells #[.slice none 0 0,.map none,.map none] 118 (0,0)):=by rw [←s1,←h2];exact heap_alloc_new _ _
 have m2:mapP w3 (w.heap.size+1+1) 0 (.map []):=by rw [←s2,←h3];exact World.ownsMap_made _ _ _ _
 have m3:mapO w4 (w.heap.size+1+1+1) 0 (.map []):=by rw [←s3,←h4];exact World.ownsMap_made _ _ _ _
 have B1:Below w1.heap.size w1 w2:=by rw [←h2];exact below_alloc _ _
 have B2:Below w2.heap.size w2 w3:=by rw [←h3];exact below_alloc _ _
 have B3:Below w3.heap.size w3 w4:=by rw [←h4];exact below_alloc _ _
 have B0:Below w.heap.size w w1:=by rw [←h1];exact below_alloc _ _
 rw [h1,h2,h3,h4]
 have B4:=below_alloc w4 (.cells #[.slice A N c,.map (some (w.heap.size+1+1)),.map (some (w.heap.size+1+1+1))] 118)
 have n4:=heap_alloc_new w4 (.cells #[.slice A N c,.map (some (w.heap.size+1+1)),.map (some (w.heap.size+1+1+1))] 118)
 rw [s4] at n4
 refine ⟨((bt B1 (bt B2 (bt B3 B4))).block _ (by omega)).trans b0,((bt B2 (bt B3 B4)).block _ (by omega)).trans b1,n4,(m2.kept (grown_below B3 none) (by simp)).alloc _,m3.alloc _,bt B0 (bt B1 (bt B2 (bt B3 B4)))⟩
theorem LkT.add {w W w1 w2:World} {A:Option Addr} {N c:Nat} {r:List Dd} {d:Dd} (h:LkT w A N c r W) (h1:mapP w1 (w.heap.size+1+1) (r.length+1) ((kvD (plcR r)).put (.int .i64 d.ix) (.lit (.int .i64 r.length)))) (g1:W.grownBy w1 (some (w.heap.size+1+1)))
 (h2:mapO w2 (w.heap.size+1+1+1) (r.length+1) ((kvD (orgR r)).put (.int .i64 d.ix) (.lit (.string (orgS (chR r d.pa)++47 :: L d.og))))) (g2:w1.grownBy w2 (some (w.heap.size+1+1+1))):LkT w A N c (d :: r) w2:=by
 have k:∀ (j:Nat) (o:Obj),j≠w.heap.size+1+1→j≠w.heap.size+1+1+1→W.heap[j]? = some o→w2.heap[j]? = some o:=fun j o n2 n3 e=>by
  rw [g2.block j (Nat.lt_of_lt_of_le (blk_lt' e) g1.size) (fun e2=>n3 (Option.some.inj e2)),g1.block j (blk_lt' e) (fun e2=>n2 (Option.some.inj e2))]
  exact e
 refine ⟨k _ _ (by omega) (by omega) h.b0,k _ _ (by omega) (by omega) h.b1,k _ _ (by omega) (by omega) h.b4,?_,?_,(h.low.grown g1 h.low.size (fun j e=>by cases e;omega)).grown g2 (Nat.le_trans h.low.size g1.size) (fun j e=>by cases e;omega)⟩
 · exact h1.kept g2 (by intro e;injection e with e;omega)
 · have e:orgR (d :: r)=(d.ix,.lit (.string (orgS (chR r d.pa)++47 :: L d.og))) :: orgR r:=by rw [orgR,org_step]
   rw [e]
   exact h2
theorem take_rev {l:List Dd} {k:Nat} {d:Dd} (h:l[k]? = some d):(l.take (k+1)).reverse=d :: (l.take k).reverse:=by
 obtain ⟨hk,rfl⟩:=List.getElem?_eq_some_iff.1 h
 rw [List.take_succ_eq_append_getElem hk,List.reverse_append]
 rfl
set_option maxHeartbeats 4000000 in
theorem Look_any (A:Option Addr) (c:Nat) (ds:List Dv) (w:World) (h:TrN w A ds) (hi:∀ d∈dsD ds,DdI d):Calls Tryz.prog 53 #[trV A ds c] w (LookP A c ds w):=by
 have hlen:=h.len
 have HT:=Lib.hid h
 have HI:=Lib.hid hi
 have hmm:=@run_makeMap Tryz.prog
 have HEnd:Hid (∀ W,LkT w A ds.length c ((dsD ds).take ds.length).reverse W→LookP A c ds w (.returned (.agg #[.slice A ds.length c,.map (some (w.heap.size+1+1)),.map (some (w.heap.size+1+1+1))])) (W.setRow (w.heap.size+1) #[.slice A ds.length c,.map (some (w.heap.size+1+1)),.map (some (w.heap.size+1+1+1))])):=Lib.hid fun W hW=>by
  have e:(dsD ds).take ds.length=dsD ds:=List.take_of_length_le (by rw [dsD_len];exact Nat.le_refl _)
  rw [e] at hW
  have l1:(dsD ds).reverse.length=ds.length:=by rw [List.length_reverse,dsD_len]
  have p1:=hW.pl
  have o1:=hW.og
  rw [l1] at p1 o1
  exact ⟨_,_,rfl,p1.kept (grown_setRow _ _ _) (by intro e;injection e with e;omega),o1.kept (grown_setRow _ _ _) (by intro e;injection e with e;omega),bRow hW.low (Nat.le_succ _)⟩
 unfold trV
 generalize hP:LookP A c ds w=P at *
 clear hP h hi
 obtain ⟨N,hN⟩:∃ N,ds.length=N:=⟨_,rfl⟩
 have HN:=Lib.hid hN
 rw [hN] at hlen HEnd ⊢
 clear hN
 go_enter Tryz.func53,Tryz.ntmps53
 go_wp2
 go_loopg [15,5,4,6] (N+1) (fun gk s15 _ _ _ wr=>∃ k:Nat,s15=.int .i64 k∧k+gk=N+1∧k≤N∧Hid (LkT w A N c ((dsD ds).take k).reverse wr))
 case atStart=>exact ⟨0,rfl,by omega,Nat.zero_le _,LkT.start w A N c⟩
 case round =>
  obtain ⟨k,rfl,hkg,hkN,HL⟩:=hrel
  clear hmm
  by_cases hlt:k<N
  · have hltI:(k:Int)<(N:Int):=by omega
    have hk':k<ds.length:=by rw [HN.out];exact hlt
    obtain ⟨x,hx⟩:∃ x,ds[k]? = some x:=⟨_,List.getElem?_eq_getElem hk'⟩
    have hxd:(dsD ds)[k]? = some x.d:=by unfold dsD;rw [List.getElem?_map,hx];rfl
    have hdi:=HI.out x.d (List.mem_of_getElem? hxd)
    have hte:=take_rev hxd
    have hrl:((dsD ds).take k).reverse.length=k:=by rw [List.length_reverse,List.length_take,dsD_len];omega
    obtain ⟨b,off,rfl,hb,hten⟩:=HT.out.ten hx
    obtain ⟨e0,e1,e2,e3,e4,e5,e6,e7,e8,e9⟩:=hten wr HL.out.low
    have c0:=cellOf (j:=0) HL.out.b0 rfl
    have hcl:=chR_len ((dsD ds).take k).reverse x.pa
    have hcs:=chR_org (r:=((dsD ds).take k).reverse) (fun d hd=>(HI.out d (List.mem_of_mem_take (List.mem_reverse.1 hd))).og) x.pa
    have hoz:=hdi.og
    have HDI:=Lib.hid hdi
    have HTE:=Lib.hid hte
    generalize ((dsD ds).take k).reverse=r at *
    clear hx hxd hten hte hdi
    go_upto_region 5 with fail
    obtain ⟨w5,hw5⟩:∃ w5,wr.alloc (.cells #[.int .i64 x.ix,.int .i64 x.pa,.string x.nam,.string x.og,.string x.sb,.string x.dr,.string x.al,.int .i64 x.kd,.int .i64 x.nb,.slice x.ats.A x.ats.l.length x.ats.c] 67)=w5:=⟨_,rfl⟩
    have hL5:=HL.out.go (W1:=w5) (by rw [←hw5];exact below_alloc _ _)
    have hd5:w5.heap[wr.heap.size]? = some (.cells #[.int .i64 x.ix,.int .i64 x.pa,.string x.nam,.string x.og,.string x.sb,.string x.dr,.string x.al,.int .i64 x.kd,.int .i64 x.nb,.slice x.ats.A x.ats.l.length x.ats.c] 67 (0,0)):=by rw [←hw5];exact heap_alloc_new _ _
    rw [hw5]
    have f0:=cellOf (j:=0) hd5 rfl
    have f1:=cellOf (j:=1) hd5 rfl
    have f3:=cellOf (j:=3) hd5 rfl
    have g1:=cellOf (j:=1) hL5.b4 rfl
    have g2:=cellOf (j:=2) hL5.b4 rfl
    have hlk:=(look_org hL5.og (z:=x.pa) HDI.out.pa.1 HDI.out.pa.2).1
    have HL5:=Lib.hid hL5
    have HD5:=Lib.hid (blk_lt' hd5)
    clear hw5 hL5 hd5 e0 e1 e2 e3 e4 e5 e6 e7 e8 e9 c0
    obtain ⟨og,hog⟩:∃ og,bs (orgS (chR r x.pa))=og:=⟨_,rfl⟩
    have hoz2:og.size≤1001000:=by rw [←hog,size_bs];omega
    rw [hog] at hlk
    have HOG:=Lib.hid hog
    clear hog hcs hcl
    have hz1:x.og.size≤1000:=hoz
    have hLd:=HL5.out.go (W1:=w5.drew) (bDr (Below.refl _ _))
    have hkm:k<maxLen:=by unfold maxLen;omega
    obtain ⟨w6,hr6,hp6,hg6⟩:=World.ownsMap.update hLd.pl lawI Tryz.underlying115 (by rw [hrl];exact hkm) (keyI (a:=x.ix) HDI.out.ix.1 HDI.out.ix.2) (plainElem_int Tryz.underlying3 (a:=(k:Int)) (wfI (by omega) (by omega)))
    obtain ⟨w7,hr7,ho7,hg7⟩:=World.ownsMap.update (hLd.og.kept hg6 (by intro e;injection e with e;omega)) lawI Tryz.underlying116 (by rw [hrl];exact hkm) (keyI (a:=x.ix) HDI.out.ix.1 HDI.out.ix.2) (plainElem_string Tryz.underlying9 (s:=og++⟨#[47]⟩++x.og) (by simp only [ByteArray.size_append];show og.size+1+x.og.size≤maxLen;unfold maxLen;omega))
    have hg5:w5.heap.size≤w6.heap.size:=hg6.size
    have hS:∀ W:World,(∀ g:Nat,g≠w.heap.size+1+1→g≠w.heap.size+1+1+1→g<w5.heap.size→W.heap[g]? = w5.heap[g]?)→W.cell? ⟨w.heap.size+1+1+1+1,1,none⟩=some (.map (some (w.heap.size+1+1)))∧W.cell? ⟨w.heap.size+1+1+1+1,2,none⟩=some (.map (some (w.heap.size+1+1+1)))∧W.cell? ⟨wr.heap.size,0,none⟩=some (.int .i64 x.ix):=fun W hW=>by
     have a1:=blk_lt' HL5.out.b4
     have a2:=blk_lt' HL.out.b4
     have a3:=HD5.out
     have q1:=hW (w.heap.size+1+1+1+1) (by omega) (by omega) a1
     have q2:=hW wr.heap.size (by omega) (by omega) a3
     exact ⟨by rw [World.cell?_of_block (w:=w5) q1];exact g1,by rw [World.cell?_of_block (w:=w5) q1];exact g2,by rw [World.cell?_of_block (w:=w5) q2];exact f0⟩
    have hS5:=hS w5.drew (fun _ _ _ _=>rfl)
    have hS6:=hS w6 (fun g n1 n2 hg=>hg6.block g hg (fun e=>n1 (Option.some.inj e)))
    have hS7:=hS w7 (fun g n1 n2 hg=>(hg7.block g (Nat.lt_of_lt_of_le hg hg5) (fun e=>n2 (Option.some.inj e))).trans (hg6.block g hg (fun e=>n1 (Option.some.inj e))))
    have HNew:Hid (LkT w (some ⟨b,off,none⟩) N c (x.d :: r) w7):=Lib.hid (LkT.add hLd (by rw [←hrl] at hp6;rw [hrl];rw [hrl] at hp6;exact hp6) hg6 (by
     have e:L (og++⟨#[47]⟩++x.og)=orgS (chR r x.pa)++47 :: L x.og:=by rw [L_append,L_append,←HOG.out,L_bs];simp [L]
     have e2:(og++⟨#[47]⟩++x.og).data.toList=orgS (chR r x.d.pa)++47 :: L x.d.og:=e
     rw [e2] at ho7
     exact ho7) hg7)
    have HS5:=Lib.hid hS5
    have HS6:=Lib.hid hS6
    have HS7:=Lib.hid hS7
    clear hLd hp6 ho7 hg6 hg7 hS hS5 hS6 hS7 hg5
    go_wp2_with fail
    clear hlk
    go_region_held3 (fun W=>W.cell? ⟨w.heap.size+1+1+1+1,1,none⟩=some (.map (some (w.heap.size+1+1)))∧W.cell? ⟨w.heap.size+1+1+1+1,2,none⟩=some (.map (some (w.heap.size+1+1+1)))∧W.cell? ⟨wr.heap.size,0,none⟩=some (.int .i64 x.ix)) ((first | exact HS5.out | exact HS6.out | exact HS7.out)) (fail)
    all_goals
     clear hr6 hr7
     go_wp2
     go_roundg (gk - 1)
     case measure=>omega
     case rel=>exact ⟨k+1,by go_num,by omega,by omega,by rw [HTE.out];exact HNew.out⟩
  · obtain rfl:k=N:=by omega
    have g0:=cellOf (j:=0) HL.out.b4 rfl
    have g1:=cellOf (j:=1) HL.out.b4 rfl
    have g2:=cellOf (j:=2) HL.out.b4 rfl
    go_wp2_with (refine wpList_store_row rfl 118 _ _ rfl _ _ rfl rfl _ _ HL.out.b1 (by exact viewSize) rfl (by simp [Value.oneCell']) ?_)
    refine post_cellrow rfl (by rfl) HL.out.b1 Tryz.underlying118 rfl (by exact viewSize) (by rfl) ?_
    exact HEnd.out _ HL.out
theorem fld_view (A:Option Addr) (N c p o:Nat) (W:World):(Instr.field 118 (.agg #[.slice A N c,.map (some p),.map (some o)]) 2).run Tryz.prog W=.ok (.map (some o)) W:=by kernel_rfl
set_option maxHeartbeats 1000000 in
theorem Origin_any (A:Option Addr) (c:Nat) (ds:List Dv) (n:Int) (w:World) (h:TrN w A ds) (hi:∀ d∈dsD ds,DdI d) (h1 : -9223372036854775808≤n) (h2:n≤9223372036854775807) :
 Calls Tryz.prog 31 #[trV A ds c,.int .i64 n] w fun e w'=>e=.returned (.tuple #[.string (orgB (dsD ds) n),.bool (!(chS (dsD ds) n).isEmpty)])∧Below w.heap.size w w':=by
 have hb:=below_alloc w (.cells #[.slice A ds.length c] 30)
 have HL:=Lib.hid (Look_any A c ds _ (h.keep hb) hi)
 have HB:=Lib.hid hb
 unfold LookP at HL
 clear h hb hi
 unfold trV orgB chS at *
 generalize (dsD ds).reverse=r at *
 generalize ds.length=N at *
 go_enter Tryz.func31,Tryz.ntmps31
 go_wp2_with (go_at_call 53;refine HL.out.mono ?_;rintro e w2 ⟨p,o,rfl,hp,ho,hb2⟩;have hlk:=(look_org ho h1 h2).2;have hfl:=fld_view A N c p o w2;have HB2:=Lib.hid hb2;clear hp ho hb2)
 go_ret2
 exact ⟨rfl,bt HB.out HB2.out⟩
end
section
open Go.RowKit Go.Lib
def PredS (g:Nat) (lb:Array Value) (p:ByteArray→Bool) (xs:List ByteArray) (w:World):Prop:=∀ x∈xs,∀ W,Below w.heap.size w W→Calls Tryz.prog g (#[.string x]++lb) W fun e w'=>e=.returned (.bool (p x))∧Below w.heap.size w w'
theorem str_at {w wr:World} {B:Nat} {A:Option Addr} {xs:List ByteArray} (h:RowAt w B A 1 xs.length (xs.map Value.string)) (hb:Below B w wr) {k:Nat} (hk:k<xs.length):∃ ba off,A=some ⟨ba,off,none⟩∧wr.cell? ⟨ba,off+k,none⟩=some (.string xs[k]):=by
 obtain ⟨ba,off,e,hB,hc⟩:=h.at_ (by omega)
 refine ⟨ba,off,e,?_⟩
 have h1:=hc k (.string xs[k]) (by rw [List.getElem?_map,List.getElem?_eq_getElem hk];rfl)
 exact (hb.cell (p:=⟨ba,off+k,none⟩) hB).trans h1
set_option maxHeartbeats 1000000 in
theorem IdxB_any (g:Nat) (lb:Array Value) (eg:∀ args w,(callFunc g args).run Tryz.prog w=.ok (.enter g args) w) (p:ByteArray→Bool) (A:Option Addr) (c:Nat) (xs:List ByteArray) (w:World) (hr:RowAt w w.heap.size A 1 xs.length (xs.map Value.string)) (hl:xs.length≤1000000000) (hp:PredS g lb p xs w) :
 Calls Tryz.prog 165 #[.slice A xs.length c,.func (.func g) #[] lb] w fun e w'=>e=.returned (.int .i64 (Lib.idxBy (fun _ y=>p y) xs default))∧Below w.heap.size w w':=by
 obtain ⟨N,hN⟩:∃ N,xs.length=N:=⟨_,rfl⟩
 have HN:=Lib.hid hN
 have HR:=Lib.hid hr
 have HP:=Lib.hid hp
 rw [hN] at hl ⊢
 clear hr hp hN
 go_enter Tryz.func165,Tryz.ntmps165
 go_wp2
 go_loopg [5,8] N (fun gg _ s8 wr=>∃ kk:Nat,kk≤N∧N - kk≤gg∧s8=.int .i64 kk∧Hid (Below w.heap.size w wr)∧Hid (∀ j (h:j<xs.length),j<kk→p xs[j]=false))
 case atStart=>exact ⟨0,Nat.zero_le _,by omega,rfl,Lib.hid (Below.refl _ w),Lib.hid fun j _ hj=>absurd hj (Nat.not_lt_zero _)⟩
 case round =>
  obtain ⟨kk,hkk,hg,rfl,BW,HA⟩:=hrel
  by_cases hlt:kk<N
  · have hltz:(kk:Int)<(N:Int):=by omega
    have hk:kk<xs.length:=by rw [HN.out];exact hlt
    obtain ⟨ba,off,rfl,l2⟩:=str_at HR.out BW.out hk
    have hcall:=HP.out xs[kk] (List.getElem_mem hk) wr BW.out
    have HX:Hid (∃ y,xs[kk]=y):=Lib.hid ⟨_,rfl⟩
    cases hq:p xs[kk] with
    | true =>
      rw [hq] at hcall
      have HV:Hid (Lib.idxBy (fun _ y=>p y) xs default=(kk:Int)):=Lib.hid (by
       have:=Lib.idxBy_hit (fun _ y=>p y) xs xs.length kk default hk (Nat.le_refl _) (by show p xs[kk]! = true;rw [getElem!_pos xs kk hk];exact hq) (fun j h2=>by
        show p xs[j]! = false
        rw [getElem!_pos xs j (by omega)]
        exact HA.out j (by omega) h2)
       rwa [List.take_length] at this)
      clear hq
      generalize xs[kk]=y at *
      go_wp2_with (go_at_fn g;refine hcall.mono ?_;rintro e w' ⟨rfl,hb'⟩)
      go_ret
      rw [HV.out]
      exact ⟨rfl,hb'⟩
    | false =>
      rw [hq] at hcall
      have HA2:Hid (∀ j (h:j<xs.length),j<kk+1→p xs[j]=false):=Lib.hid fun j h hj=>by
       rcases Nat.lt_or_ge j kk with h1 | h1
       · exact HA.out j h h1
       · obtain rfl:j=kk:=by omega
         exact hq
      clear hq
      generalize xs[kk]=y at *
      go_wp2_with (go_at_fn g;refine hcall.mono ?_;rintro e w' ⟨rfl,hb'⟩)
      go_roundg (N - (kk+1))
      case measure=>omega
      case rel=>exact ⟨kk+1,by omega,by omega,by go_num,Lib.hid hb',HA2⟩
  · have hltz:¬ (kk:Int)<(N:Int):=by omega
    have:kk=N:=by omega
    subst this
    have HV:Hid (Lib.idxBy (fun _ y=>p y) xs default = -1):=Lib.hid (by
     have:=Lib.idxBy_miss (fun _ y=>p y) xs xs.length default (fun j hj=>by
      show p xs[j]! = false
      rw [getElem!_pos xs j hj]
      exact HA.out j hj (by rw [←HN.out];exact hj))
     rwa [List.take_length] at this)
    go_wp2
    go_ret
    rw [HV.out]
    exact ⟨rfl,BW.out⟩
theorem ContB_any (g:Nat) (lb:Array Value) (eg:∀ args w,(callFunc g args).run Tryz.prog w=.ok (.enter g args) w) (p:ByteArray→Bool) (A:Option Addr) (c:Nat) (xs:List ByteArray) (w:World) (hr:RowAt w w.heap.size A 1 xs.length (xs.map Value.string)) (hl:xs.length≤1000000000) (hp:PredS g lb p xs w) :
 Calls Tryz.prog 140 #[.slice A xs.length c,.func (.func g) #[] lb] w fun e w'=>e=.returned (.bool (xs.any p))∧Below w.heap.size w w':=by
 have HI:=Lib.hid (IdxB_any g lb eg p A c xs w hr hl hp)
 have hE:xs.any p=decide (0≤Lib.idxBy (fun _ y=>p y) xs default):=(Lib.idxBy_nonneg_iff (fun _ y=>p y) xs default).symm
 rw [hE]
 clear hE hr hp
 generalize Lib.idxBy (fun _ y=>p y) xs default=z at *
 go_enter Tryz.func140,Tryz.ntmps140
 go_wp2_with (go_at_call 165;refine HI.out.mono ?_;rintro e w' ⟨rfl,hb'⟩)
 go_ret
 exact ⟨rfl,hb'⟩
end
section
open Go.RowKit Go.Shelf Go.Maps
def vwA (A:Option Addr) (c:Nat) (ds:List Dv) (p o:Nat):Array Value:=#[.slice A ds.length c,.map (some p),.map (some o)]
end
section
open Go.RowKit Go.Shelf Go.Maps
structure AnS (w:World) (A:Option Addr) (c:Nat) (ds:List Dv) (p o:Nat) (n:Int) (base Bv Bn:Nat) (pre:List Dv) (W:World):Prop where
 bi:W.heap[w.heap.size+1]? = some (.cells #[.int .i64 n] 3 (0,0))
 vl:∃ (v:Value) (ms:List Dv),W.heap[w.heap.size+1+1]? = some (.cells #[v] 28 (0,0))∧W.ownsRow base devT 10 v ms.length (cellsOf encDv ms)∧ms.map Dv.d=(pre.map Dv.d).filter (fun d => !(d.ix == n))∧(∀ y∈ms,DvN W y∧From base y.ats.A∧∀ a,y.ats.A=some a→v.ownBlock≠some a.block)
 mp:mapP W p ds.length (kvD (plcR (dsD ds).reverse))
 bv:W.heap[Bv]? = some (.cells (vwA A c ds p o) 118 (0,0))
 sz:base≤W.heap.size
 low:Below w.heap.size w W
theorem AnS.own {w:World} {A:Option Addr} {c:Nat} {ds:List Dv} {p o:Nat} {n:Int} {base Bv Bn:Nat} (hp:p<base) (hw:w.heap.size≤base):OwnFrom base (AnS w A c ds p o n base Bv Bn):=by
 intro pre W W' row h hg hr
 have hc:∀ (g:Nat) (cs:Array Value) (t:TypeId),W.heap[g]? = some (.cells cs t (0,0))→W'.heap[g]? = some (.cells cs t (0,0)):=fun g cs t e=>by
  rw [hg.block g (blk_lt' e) (fun e2=>by
   obtain ⟨_,ob,ho,hb⟩:=hr g e2.symm
   rw [e] at ho
   rw [←Option.some.inj ho] at hb
   cases hb)]
  exact e
 obtain ⟨v,ms,h1,h2,h3,h4⟩:=h.vl
 refine ⟨hc _ _ _ h.bi,⟨v,ms,hc _ _ _ h1,?_,h3,fun y hy=>⟨(h4 y hy).1.ownf hg (fun r e=>(hr r e).2),(h4 y hy).2⟩⟩,h.mp.kept hg (fun e=>by have:=(hr p e.symm).1;omega),hc _ _ _ h.bv,Nat.le_trans h.sz hg.size,h.low.grown hg h.low.size (fun j e=>by have:=(hr j e).1;omega)⟩
 refine own_off h2 hg (fun g e hv=>?_)
 obtain ⟨ob,ho,hb⟩:=own_cells h2 hv
 obtain ⟨_,ob2,ho2,hb2⟩:=hr g e
 rw [ho] at ho2
 rw [Option.some.inj ho2,hb2] at hb
 cases hb
theorem AnS.box {w W:World} {A:Option Addr} {c:Nat} {ds:List Dv} {p o:Nat} {n:Int} {base Bv Bn:Nat} {pre:List Dv} (hB:Bn<base) (h1:Bn≠w.heap.size+1) (h2:Bn≠w.heap.size+1+1) (h3:Bn≠p) (h4:Bn≠Bv) (h5:w.heap.size≤Bn) (v:Value) (h:AnS w A c ds p o n base Bv Bn pre W):AnS w A c ds p o n base Bv Bn pre (W.setCell ⟨Bn,0,none⟩ v):=by
 have hg:=grown_set W Bn 0 v
 have k:∀ g,g≠Bn→(W.setCell ⟨Bn,0,none⟩ v).heap[g]? = W.heap[g]?:=fun g hg=>heap_setCell_other _ _ _ _ hg
 obtain ⟨u,ms,q1,q2,q3,q4⟩:=h.vl
 refine ⟨(k _ (by omega)).trans h.bi,⟨u,ms,(k _ (by omega)).trans q1,own_off q2 hg (fun g e hv=>?_),q3,fun y hy=>⟨(q4 y hy).1.grown hg (fun a ea e=>?_),(q4 y hy).2⟩⟩,h.mp.kept hg (fun e=>?_),(k _ (by omega)).trans h.bv,Nat.le_trans h.sz hg.size,bCell h.low h5⟩
 · have:=(q2.lt g hv).1;have:=Option.some.inj e;omega
 · have:=(q4 y hy).2.1 a ea;have:=Option.some.inj e;omega
 · have:=Option.some.inj e;omega
attribute [local go_sem] Oper.semAt_some
theorem bs_dev (n:Nat) (parts:Array (Nat × Value)):Instr.buildSlice 28 n parts=bsG 28 n parts:=by unfold bsG;rfl
attribute [local go_sem ↓] bs_dev ap_g
end
section
open Go.RowKit Go.Shelf
theorem cells_bs (l:List Str):cellsOf encS l=l.map fun s=>.string (bs s):=by
 induction l with
 | nil=>rfl
 | cons y r ih=>rw [List.map_cons,←ih];rfl
theorem BinS_any {B:Nat} (A:Option Addr) (c:Nat) (l:List Str) (v:ByteArray) (w:World) (h:w.ownsRow B strT 1 (.slice A l.length c) l.length (cellsOf encS l)) (hl:l.length≤10000) (hs:l.Pairwise (· < ·)) :
 Calls Tryz.prog 222 #[.slice A l.length c,.string v] w fun e w'=>e=.returned (.tuple #[.int .i64 (posS l (L v):Nat),.bool (decide (L v∈l))])∧Below w.heap.size w w':=by
 have hrow:=(LsN.of_own h).1.row
 cases hl0:l with
 | nil =>
   refine (Any2.slices_BinarySearch_string_empty laysBsS A c v w).mono ?_
   rintro e w' ⟨rfl,rfl⟩
   exact ⟨by simp [posS],Below.refl _ _⟩
 | cons x r =>
   rw [←hl0]
   have hpos:0<l.length:=by rw [hl0];simp
   obtain ⟨b,off,hA,hb,hc⟩:=hrow.row.at_ hpos
   have hA:A=some ⟨b,off,none⟩:=hA
   rw [hA]
   let Sx:Nat→ByteArray:=fun t=>if ht:t<l.length then bs l[t] else v
   have hcell:∀ j,j<l.length→w.cell? ⟨b,off+j,none⟩=some (.string (Sx j)):=fun j hj=>by
    refine hc j _ ?_
    show (cellsOf encS l)[j]? = _
    rw [cells_bs,List.getElem?_map,List.getElem?_eq_getElem hj]
    simp [Sx,hj]
   have hk:Lib.bsGo (fun t=>Op.bytesLess (Sx t).toList v.toList) l.length 0 l.length=posS l (L v):=by
    refine Lib.bsGo_spec _ _ (fun t ht=>?_) (fun t ht=>?_) _ _ _ (by omega) (Nat.zero_le _) (posS_le _ _)
    · obtain ⟨h1,h2⟩:=posS_lt ht
      simp only [Sx,h1,dif_pos]
      rw [tl,tl,L_bs,bless]
      exact decide_eq_true h2
    · by_cases h1:t<l.length
      · simp only [Sx,h1,dif_pos]
        rw [tl,tl,L_bs,bless]
        exact decide_eq_false (posS_ge hs ht h1)
      · simp only [Sx,h1,dif_neg,not_false_eq_true]
        rw [tl,bless]
        exact decide_eq_false (lt_irr _)
   have hm:=Any2.slices_BinarySearch_string laysBsS b off l.length c Sx v w (by omega) hcell
   refine hm.mono ?_
   rintro e w' ⟨rfl,q,rfl⟩
   refine ⟨?_,below_drewN (Below.refl _ _) q⟩
   rw [hk]
   have hmem:=mem_posS hs (L v)
   have hdec:decide (posS l (L v)<l.length∧Sx (posS l (L v))=v)=decide (L v∈l):=by
    rw [decide_eq_decide,hmem]
    constructor
    · rintro ⟨h1,h2⟩
      refine ⟨h1,?_⟩
      simp only [Sx,h1,dif_pos] at h2
      have h3:=congrArg L h2
      rwa [L_bs] at h3
    · rintro ⟨h1,h2⟩
      refine ⟨h1,?_⟩
      simp only [Sx,h1,dif_pos]
      rw [h2,bs_L]
   rw [hdec]
end
section
open Go.RowKit
set_option maxHeartbeats 2000000 in
theorem EVal_any (f:ByteArray) (ln:Int) (A:Option Addr) (c:Nat) (l:List Tm) (key:Int) (w:World) (hn:l.length≤1000000) (h:RowAt w w.heap.size A 4 l.length (cellsOf encTm l)) :
 Calls Tryz.prog 88 #[.agg #[.string f,.int .i64 ln,.slice A l.length c],.int .i64 key] w fun e w'=>e=.returned (valOV (valL l key))∧Below w.heap.size w w':=by
 have H:=Lib.hid h
 clear h
 generalize hN:l.length=N at *
 have HN:=Lib.hid hN
 clear hN
 go_enter Tryz.func88,Tryz.ntmps88
 go_wp2
 go_loopg [11,7] (N+1) (fun gk s11 _ wr=>∃ k:Nat,s11=.int .i64 k∧k+gk=N+1∧k≤N∧Hid (Below w.heap.size w wr)∧Hid (∀ j (h:j<l.length),j<k→l[j].key≠key))
 case atStart=>exact ⟨0,rfl,by omega,Nat.zero_le _,Lib.hid (below_alloc _ _),Lib.hid fun j _ h=>absurd h (Nat.not_lt_zero _)⟩
 case round =>
  obtain ⟨k,rfl,hkg,hkN,HB,hno⟩:=hrel
  by_cases hlt:k<N
  · have hk':k<l.length:=by rw [HN.out];exact hlt
    have hr:=H.out
    rw [←HN.out] at hr
    obtain ⟨ba,off,rfl,c0,c1,c2,c3⟩:=hr.tm HB.out hk'
    have hltI:(k:Int)<(N:Int):=by omega
    clear hr
    cases hq:(l[k].key == key)
    · have hne:l[k].key≠key:=by simpa using hq
      have HA:Hid (∀ j (h:j<l.length),j<k+1→l[j].key≠key):=Lib.hid fun j h hj=>by
       rcases Nat.lt_or_ge j k with h1 | h1
       · exact hno.out j h h1
       · obtain rfl:j=k:=by omega
         exact hne
      generalize l[k].key=ky at *
      generalize l[k].name=nmm at *
      generalize l[k].op=opp at *
      generalize l[k].value=vl at *
      go_wp2
      go_roundg (gk - 1)
      case measure=>omega
      case rel=>exact ⟨k+1,by go_num,by omega,by omega,Lib.hid (bAl HB.out),HA⟩
    · have hke:l[k].key=key:=by simpa using hq
      have HV:=Lib.hid (find_hit hno.out hk' hke)
      generalize l[k].key=ky at *
      generalize l[k].name=nmm at *
      generalize l[k].op=opp at *
      generalize l[k].value=vl at *
      subst hke
      go_wp2
      go_ret2
      rw [HV.out]
      exact ⟨rfl,bAl HB.out⟩
  · obtain rfl:k=N:=by omega
    have HV:=Lib.hid (find_miss (l:=l) (key:=key) fun j h=>hno.out j h (by rw [←HN.out];exact h))
    go_wp2
    go_ret2
    rw [HV.out]
    exact ⟨rfl,HB.out⟩
end
end Go.Proofs.YtobcmlmbblgcdaaGreatDoor

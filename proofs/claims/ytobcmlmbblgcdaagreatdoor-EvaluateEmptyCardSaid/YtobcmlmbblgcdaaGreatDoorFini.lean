/-
  Contract of the program's Finish.
-/
import Derived.Test.YtobcmlmbblgcdaaGreatDoorG31
import Derived.Test.YtobcmlmbblgcdaaGreatDoorG26
namespace Go.Proofs.YtobcmlmbblgcdaaGreatDoor
set_option maxRecDepth 100000
open Go.RowKit
abbrev rmZ:Rm:=⟨⟨#[]⟩,0,⟨none,0,[]⟩,⟨none,0,[]⟩,⟨none,0,[]⟩,⟨none,0,[]⟩,⟨none,0,[]⟩,⟨#[]⟩,0,⟨#[]⟩,⟨#[]⟩,0⟩
def Rm.as (r:Rm):List (Option Addr):=[r.props.A,r.tags.A,r.links.A,r.run.A,r.load.A]
def FinP (w:World) (o:Option Dd) (d:Dr) (g:ByteArray) (e:Ending) (w':World):Prop:=match o with
 | none=>e=.returned (.tuple #[.agg (rcA rmZ),.bool false])∧Below w.heap.size w w'
 | some x=>∃ r:Rm,e=.returned (.tuple #[.agg (rcA r),.bool true])∧r.d=finS d x g∧RmN w' r∧(∀ a∈r.as,∀ p,a=some p→w.heap.size≤p.block)∧Below w.heap.size w w'
def FnS (w4:World) (r:Rm) (W:World):Prop:=W.heap[w4.heap.size]? = some (.cells (rcA r) recT (0,0))∧Below w4.heap.size w4 W
theorem FnS.keep {w4 W W':World} {r:Rm} (h:FnS w4 r W) (hb:Below W.heap.size W W'):FnS w4 r W':=⟨(hb.block _ (blk_lt' h.1)).trans h.1,bt h.2 hb⟩
theorem FnS.set {w4 W:World} {r:Rm} (h:FnS w4 r W) (i:Nat) (v:Value) (r':Rm) (e:(rcA r).setIfInBounds i v=rcA r'):FnS w4 r' (W.setCell ⟨w4.heap.size,i,none⟩ v):=by
 have h1:=setCell_eq_setRow W w4.heap.size i _ _ _ v h.1
 rw [h1,e]
 exact ⟨setRow_heap _ _ _ _ _ _ h.1,h.2.grown (grown_setRow _ _ _) h.2.size (fun j ej=>by rw [←Option.some.inj ej];exact Nat.le_refl _)⟩
theorem FnS.drew {w4 W:World} {r:Rm} (h:FnS w4 r W):FnS w4 r W.drew:=⟨h.1,h.2.drew⟩
def rm1 (n:Int) (z:Dm) (p:ByteArray):Rm:=⟨p,n,z.props,z.tags,⟨none,0,[]⟩,z.run,z.load,⟨#[]⟩,z.prio,⟨#[]⟩,⟨#[]⟩,0⟩
def rm2 (n:Int) (z:Dm) (p:ByteArray):Rm:=⟨p,n,z.props,z.tags,z.links,z.run,z.load,⟨#[]⟩,z.prio,z.own,z.grp,z.mode⟩
def rm3 (n:Int) (z:Dm) (p:ByteArray):Rm:=⟨p,n,z.props,z.tags,⟨none,0,[]⟩,z.run,z.load,z.nam,z.prio,⟨#[]⟩,⟨#[]⟩,0⟩
theorem FnS.two {w4 W:World} {n:Int} {z:Dm} {p:ByteArray} (h:FnS w4 (rm1 n z p) W):FnS w4 (rm2 n z p) ((((W.setCell ⟨w4.heap.size,4,none⟩ (.slice z.links.A z.links.l.length z.links.c)).setCell ⟨w4.heap.size,9,none⟩ (.string z.own)).setCell ⟨w4.heap.size,10,none⟩ (.string z.grp)).setCell ⟨w4.heap.size,11,none⟩ (.int .i64 z.mode)).drew :=
 ((((h.set 4 _ ⟨p,n,z.props,z.tags,z.links,z.run,z.load,⟨#[]⟩,z.prio,⟨#[]⟩,⟨#[]⟩,0⟩ rfl).set 9 _ ⟨p,n,z.props,z.tags,z.links,z.run,z.load,⟨#[]⟩,z.prio,z.own,⟨#[]⟩,0⟩ rfl).set 10 _ ⟨p,n,z.props,z.tags,z.links,z.run,z.load,⟨#[]⟩,z.prio,z.own,z.grp,0⟩ rfl).set 11 _ (rm2 n z p) rfl).drew
theorem ls_fin {β:Type} {k q:Nat} {enc:β→List Value} {w4 W:World} {base:Nat} {T:TypeId} {y:Ls β} {cs:Array Value} (h:w4.ownsRow base T k (.slice y.A y.l.length y.c) y.l.length (cellsOf enc y.l)) (hW:Below w4.heap.size w4 W) (hq:q<base):LsN k enc (W.setRow q cs) y:=by
 have h1:=LsN.of_own (own_below2 h hW)
 exact h1.1.grown (grown_setRow _ _ _) (fun a e=>by have h2:=h1.2 a e;intro h3;have:=Option.some.inj h3;omega)
theorem fin_rm {w4 W:World} {base g q:Nat} {z:Dm} {cs:Array Value} (h:EdO base w4 g z) (hW:Below w4.heap.size w4 W) (hq:q<base) (p:ByteArray) (n:Int):RmN (W.setRow q cs) (rm1 n z p)∧RmN (W.setRow q cs) (rm2 n z p)∧RmN (W.setRow q cs) (rm3 n z p) :=
 have a:=ls_fin (cs:=cs) h.rows.pr hW hq
 have b:=ls_fin (cs:=cs) h.rows.tg hW hq
 have c:=ls_fin (cs:=cs) h.rows.lk hW hq
 have d:=ls_fin (cs:=cs) h.rows.rn hW hq
 have e:=ls_fin (cs:=cs) h.rows.ld hW hq
 ⟨⟨a,b,LsN.empty,d,e⟩,⟨a,b,c,d,e⟩,⟨a,b,LsN.empty,d,e⟩⟩
theorem fin_lo {w4:World} {base g b:Nat} {z:Dm} (h:EdO base w4 g z) (hb:b≤base) (p:ByteArray) (n:Int):(∀ a∈(rm1 n z p).as,∀ q,a=some q→b≤q.block)∧(∀ a∈(rm2 n z p).as,∀ q,a=some q→b≤q.block)∧(∀ a∈(rm3 n z p).as,∀ q,a=some q→b≤q.block):=by
 have a:=fun q e=>Nat.le_trans hb (own_rng h.rows.pr q e).1
 have b:=fun q e=>Nat.le_trans hb (own_rng h.rows.tg q e).1
 have c:=fun q e=>Nat.le_trans hb (own_rng h.rows.lk q e).1
 have d:=fun q e=>Nat.le_trans hb (own_rng h.rows.rn q e).1
 have e:=fun q e=>Nat.le_trans hb (own_rng h.rows.ld q e).1
 refine ⟨fun x hx q hq=>?_,fun x hx q hq=>?_,fun x hx q hq=>?_⟩
 all_goals
  simp only [Rm.as,rm1,rm2,rm3,List.mem_cons,List.not_mem_nil,or_false] at hx
  rcases hx with rfl | rfl | rfl | rfl | rfl
  all_goals first
   | exact a q hq
   | exact b q hq
   | exact c q hq
   | exact d q hq
   | exact e q hq
   | cases hq
theorem bu_rc (parts:Array (Nat × Value)):Instr.build 34 parts=buG 34 parts:=by unfold buG;rfl
theorem rc_build0 (W:World):(buG 34 #[]).run Tryz.prog W=.ok (.agg (rcA rmZ)) W:=by
 unfold buG
 exact run_build W _ _ _ (by kernel_rfl)
theorem rc_build1 (n:Int) (z:Dm) (W:World):(buG 34 #[(1,.int .i64 n),(2,.slice z.props.A z.props.l.length z.props.c),(3,.slice z.tags.A z.tags.l.length z.tags.c),(5,.slice z.run.A z.run.l.length z.run.c),(6,.slice z.load.A z.load.l.length z.load.c),(8,.int .i64 z.prio)]).run Tryz.prog W=.ok (.agg (rcA (rm1 n z ⟨#[]⟩))) W:=by
 unfold buG
 exact run_build W _ _ _ (by kernel_rfl)
theorem st_rc (v u:Value):Instr.storeAt 34 v u=stG 34 v u:=by unfold stG;rfl
theorem stRc_new (W:World) (r:Rm):(stG 34 (.pointer (some ⟨W.heap.size,0,none⟩)) (.agg (rcA r))).run Tryz.prog (W.alloc (.cells #[.string ⟨#[]⟩,.int .i64 0,.slice none 0 0,.slice none 0 0,.slice none 0 0,.slice none 0 0,.slice none 0 0,.string ⟨#[]⟩,.int .i64 0,.string ⟨#[]⟩,.string ⟨#[]⟩,.int .i64 0] 34)).drew=.ok () ((W.alloc (.cells #[.string ⟨#[]⟩,.int .i64 0,.slice none 0 0,.slice none 0 0,.slice none 0 0,.slice none 0 0,.slice none 0 0,.string ⟨#[]⟩,.int .i64 0,.string ⟨#[]⟩,.string ⟨#[]⟩,.int .i64 0] 34)).drew.setRow W.heap.size (rcA r)):=by
 have h:=stG_at (P:=Tryz.prog) (w:=(W.alloc (.cells #[.string ⟨#[]⟩,.int .i64 0,.slice none 0 0,.slice none 0 0,.slice none 0 0,.slice none 0 0,.slice none 0 0,.string ⟨#[]⟩,.int .i64 0,.string ⟨#[]⟩,.string ⟨#[]⟩,.int .i64 0] 34)).drew) (T:=34) (g:=W.heap.size) (o:=0) (cs:=#[.string ⟨#[]⟩,.int .i64 0,.slice none 0 0,.slice none 0 0,.slice none 0 0,.slice none 0 0,.slice none 0 0,.string ⟨#[]⟩,.int .i64 0,.string ⟨#[]⟩,.string ⟨#[]⟩,.int .i64 0]) (vs:=rcA r) (t:=34) (heap_alloc_new W _) (by exact Nat.le_refl _) (by show 0<12;omega) (by exact rcSize) (rcA_one r)
 rw [setAll_whole (#[.string ⟨#[]⟩,.int .i64 0,.slice none 0 0,.slice none 0 0,.slice none 0 0,.slice none 0 0,.slice none 0 0,.string ⟨#[]⟩,.int .i64 0,.string ⟨#[]⟩,.string ⟨#[]⟩,.int .i64 0]) (rcA r) rfl] at h
 exact h
attribute [local go_sem ↓] bu_rc st_rc
set_option maxHeartbeats 4000000 in
theorem Finish_any (x:Dm) (A:Option Addr) (c:Nat) (ds:List Dv) (n:Int) (k:Nat) (w:World) (hN:DmN w x) (hG:GdD x.d k) (hk:k≤100000) (h:TrN w A ds) (hi:∀ d∈dsD ds,DdI d) (r1 : -9223372036854775808≤n) (r2:n≤9223372036854775807) (hE:Env0 w) :
 Calls Tryz.prog 9 #[.agg (drA x),trV A ds c,.int .i64 n] w (FinP w (findD (dsD ds) n) x.d (orgB (dsD ds) n)):=by
 obtain ⟨w1,hw1⟩:∃ w1,((w.alloc (.cells (drA x) drT)).alloc (.cells #[.slice A ds.length c] 30)).alloc (.cells (rcA rmZ) recT)=w1:=⟨_,rfl⟩
 obtain ⟨hs1,k0,k1,k2,hb1⟩:=alloc3 w (.cells (drA x) drT) (.cells #[.slice A ds.length c] 30) (.cells (rcA rmZ) recT)
 rw [hw1] at hs1 k0 k1 k2 hb1
 have HFd:=Lib.hid (Find_any A c ds n w1 (h.keep hb1))
 have HEd:=Lib.hid (fun (W:World) (hW:Below w1.heap.size w1 W)=>Edit_any x W ((hN.keep hb1).keep hW) (hG.dmz hk))
 have HOg:=Lib.hid (fun (W:World) (hW:Below w1.heap.size w1 W)=>Origin_any A c ds n W ((h.keep hb1).keep hW) hi r1 r2)
 have HW:=Lib.hid hw1
 have HB1:=Lib.hid hb1
 have HK0:=Lib.hid k0
 have HK1:=Lib.hid k1
 have HK2:=Lib.hid k2
 have HS1:=Lib.hid hs1
 have HEn:=Lib.hid hE
 have HI:=Lib.hid hi
 have hx:rcA rmZ=#[.string ⟨#[]⟩,.int .i64 0,.slice none 0 0,.slice none 0 0,.slice none 0 0,.slice none 0 0,.slice none 0 0,.string ⟨#[]⟩,.int .i64 0,.string ⟨#[]⟩,.string ⟨#[]⟩,.int .i64 0]:=rfl
 rw [hx] at HW
 have hb0:=rc_build0
 have t0:w1.cell? ⟨w.heap.size+1,0,none⟩=some (.slice A ds.length c):=cellOf k1 rfl
 clear hx hw1 hs1 k0 k1 k2 hb1 hG hE hN h hi
 unfold FindP at HFd
 unfold FinP
 unfold trV at *
 cases hf:findD (dsD ds) n with
 | none =>
   rw [hf] at HFd
   have HFd2:=Lib.hid HFd.out
   clear HFd hf
   dsimp only
   go_enter Tryz.func9,Tryz.ntmps9
   go_upto_region 1 with fail
   rw [HW.out]
   go_upto_region 2 with (first
    | (go_at_call 29;refine HFd2.out.mono ?_;rintro e w2 ⟨rfl,hb2⟩;have HB2:=Lib.hid hb2;clear hb2)
    | (refine wpList_store_row rfl 67 _ _ rfl _ _ rfl rfl _ _ (heap_alloc_new _ _) (by exact devSize) rfl (by exact dvA_one _) ?_))
   obtain ⟨w3,hw3⟩:∃ w3,w3=(w2.alloc (.cells (dvA dv0) devT)).setRow w2.heap.size (dvA dv0):=⟨_,rfl⟩
   have hb3:Below w1.heap.size w1 w3:=by rw [hw3];exact bt HB2.out (bRow (below_alloc _ _) (Nat.le_refl _))
   unfold dvA at hw3
   dsimp only [List.length_nil] at hw3
   try rw [←hw3]
   have HX:=Lib.hid ((hb3.block _ (blk_lt' HK2.out)).trans HK2.out)
   have HB3:=Lib.hid hb3
   clear hw3 hb3
   go_wp2_with (refine wpList_store_row rfl 34 _ _ rfl _ _ rfl rfl _ _ HX.out (by exact rcSize) rfl (by exact rcA_one _) ?_)
   refine post_cr2 rfl (by rfl) (by rfl) (setRow_heap _ _ _ _ _ _ HX.out) Tryz.underlying34 rfl (by exact rcSize) (by rfl) ?_
   exact ⟨rfl,bRow (bt HB1.out HB3.out) (by omega)⟩
 | some dd =>
   rw [hf] at HFd
   have HFd2:=Lib.hid HFd.out
   have HDd:=Lib.hid (findD_some hf)
   clear HFd hf
   dsimp only
   go_enter Tryz.func9,Tryz.ntmps9
   go_upto_region 1 with fail
   rw [HW.out]
   go_upto_region 2 with (first
    | (go_at_call 29;refine HFd2.out.mono ?_;rintro e w2 ⟨y,rfl,hy⟩;have HY:=Lib.hid hy;clear hy)
    | (refine wpList_store_row rfl 67 _ _ rfl _ _ rfl rfl _ _ (heap_alloc_new _ _) (by exact devSize) rfl (by exact dvA_one _) ?_))
   obtain ⟨w3,hw3⟩:∃ w3,w3=(w2.alloc (.cells (dvA dv0) devT)).setRow w2.heap.size (dvA y):=⟨_,rfl⟩
   have hb23:Below w2.heap.size w2 w3:=by rw [hw3];exact bRow (below_alloc _ _) (Nat.le_refl _)
   have hb3:Below w1.heap.size w1 w3:=bt HY.out.2.2.2 hb23
   have hd3:w3.heap[w2.heap.size]? = some (.cells (dvA y) devT (0,0)):=by rw [hw3];exact setRow_heap _ _ _ _ _ _ (heap_alloc_new w2 _)
   unfold dvA at hw3
   dsimp only [List.length_nil] at hw3
   try rw [←hw3]
   have HB3:=Lib.hid hb3
   have HD3:=Lib.hid hd3
   have hx0:=(hb3.block _ (blk_lt' HK0.out)).trans HK0.out
   have HX0:=Lib.hid hx0
   clear hw3 hb3 hb23 hd3 hx0
   go_upto_region 5 with (first
    | (go_at_call 30;refine (HEd.out _ HB3.out).mono ?_;rintro e w4 ⟨z,g,rfl,hzd,hE,hb4⟩;have HE:=Lib.hid hE;have HB34:=Lib.hid hb4;have HB4:=Lib.hid (bt HB3.out hb4);have HZ:=Lib.hid hzd;clear hE hb4 hzd)
    | (refine wpList_load_row rfl 52 _ rfl _ rfl _ _ _ _ HX0.out Tryz.underlying52 rfl (by exact drSize) ?_))
   have hE4:=HE.out
   have q0:w4.cell? ⟨g,0,none⟩=some (.slice z.props.A z.props.l.length z.props.c):=cellOf hE4.box rfl
   have q1:w4.cell? ⟨g,1,none⟩=some (.slice z.tags.A z.tags.l.length z.tags.c):=cellOf hE4.box rfl
   have q3:w4.cell? ⟨g,3,none⟩=some (.slice z.run.A z.run.l.length z.run.c):=cellOf hE4.box rfl
   have q4:w4.cell? ⟨g,4,none⟩=some (.slice z.load.A z.load.l.length z.load.c):=cellOf hE4.box rfl
   have q6:w4.cell? ⟨g,6,none⟩=some (.int .i64 z.prio):=cellOf hE4.box rfl
   have hglt:g<w4.heap.size:=blk_lt' hE4.box
   have hbd:=rc_build1 n z
   have hst:=stRc_new w4 (rm1 n z ⟨#[]⟩)
   go_region
   obtain ⟨w5,hw5⟩:∃ w5,(w4.alloc (.cells #[.string ⟨#[]⟩,.int .i64 0,.slice none 0 0,.slice none 0 0,.slice none 0 0,.slice none 0 0,.slice none 0 0,.string ⟨#[]⟩,.int .i64 0,.string ⟨#[]⟩,.string ⟨#[]⟩,.int .i64 0] 34)).drew.setRow w4.heap.size (rcA (rm1 n z ⟨#[]⟩))=w5:=⟨_,rfl⟩
   rw [hw5]
   have hb5:Below w4.heap.size w4 w5:=by rw [←hw5];exact bRow ((below_alloc w4 _).drew) (Nat.le_refl _)
   have hs5:w5.heap.size=w4.heap.size+1:=by rw [←hw5];simp
   have hr5:w5.heap[w4.heap.size]? = some (.cells (rcA (rm1 n z ⟨#[]⟩)) 34 (0,0)):=by rw [←hw5];exact setRow_heap _ _ _ _ _ _ (heap_alloc_new w4 _)
   have hB15:=bt HB4.out hb5
   have HB15:=Lib.hid hB15
   have HB35:=Lib.hid (bt HB34.out hb5)
   have HB5:=Lib.hid hb5
   have HR5:=Lib.hid hr5
   have HS5:=Lib.hid hs5
   have ht5:=(hB15.block _ (blk_lt' HK1.out)).trans HK1.out
   have t5:w5.cell? ⟨w.heap.size+1,0,none⟩=some (.slice A ds.length c):=cellOf ht5 rfl
   clear hw5 hb5 hs5 hr5 hB15 ht5 q0 q1 q3 q4 q6 hst hbd hglt hE4
   have HOg5:=Lib.hid (HOg.out w5 HB15.out)
   go_upto_region 7 with (go_at_call 31;refine HOg5.out.mono ?_;rintro e w6 ⟨rfl,hb6⟩;have hr6:=(hb6.block _ (blk_lt' HR5.out)).trans HR5.out;have q0:=cellOf (j:=0) hr6 rfl;have f0:=frz hr6 0;have HR6:=Lib.hid hr6;have HB56:=Lib.hid hb6;clear hb6 hr6)
   obtain ⟨w7,hw7⟩:∃ w7,w6.setCell ⟨w4.heap.size,0,none⟩ (.string (orgB (dsD ds) n))=w7:=⟨_,rfl⟩
   rw [hw7]
   have hS7:FnS w4 (rm1 n z (orgB (dsD ds) n)) w7:=by
    rw [←hw7,setCell_eq_setRow _ _ _ _ _ _ _ HR6.out]
    exact ⟨setRow_heap _ _ _ _ _ _ HR6.out,bRow (bt HB5.out HB56.out) (Nat.le_refl _)⟩
   clear hw7 q0 f0
   generalize hog:orgB (dsD ds) n=og at *
   have HOG:=Lib.hid hog
   clear hog
   have HS7:=Lib.hid hS7
   have HB14:=Lib.hid (bt HB3.out HB34.out)
   have HD4:=Lib.hid ((HB34.out.block _ (blk_lt' HD3.out)).trans HD3.out)
   have HD7:=Lib.hid ((hS7.2.block _ (blk_lt' HD4.out)).trans HD4.out)
   have HEn7:=Lib.hid (((HEn.out.go HB1.out).go HB14.out).go hS7.2)
   have HNd:=Lib.hid (Node_any y w7 HEn7.out (by have h1:=HDd.out.1;have h2:=(HI.out _ h1).og;rw [←HY.out.1] at h2;exact h2))
   have hyd:y.d=dd:=HY.out.1
   rw [hyd] at HNd
   have hkd:y.kd=dd.kd:=congrArg Dd.kd hyd
   clear hS7
   have hX4:=(HB14.out.block _ (blk_lt' HK2.out)).trans HK2.out
   have HX4:=Lib.hid hX4
   clear hX4
   cases hnb:nodeB dd with
   | some v =>
     rw [hnb] at HNd
     have HNd2:Hid (Calls Tryz.prog 32 #[.agg (dvA y)] w7 fun e w'=>e=.returned (.tuple #[.string v,.bool true])∧Below w7.heap.size w7 w'):=Lib.hid HNd.out
     clear HNd
     go_upto_region 9 with (first
      | (go_at_call 32;refine HNd2.out.mono ?_;rintro e w8 ⟨rfl,hb8⟩;have HS8:=Lib.hid (HS7.out.keep hb8);clear hb8)
      | (refine wpList_load_row rfl 67 _ rfl _ rfl _ _ _ _ HD7.out Tryz.underlying67 rfl (by exact devSize) ?_))
     have hgl:=blk_lt' HE.out.box
     have hne:g≠w4.heap.size:=by omega
     have hg8:=(HS8.out.2.block _ hgl).trans HE.out.box
     have hR8:=HS8.out.1
     have q2:w8.cell? ⟨g,2,none⟩=some (.slice z.links.A z.links.l.length z.links.c):=cellOf hg8 rfl
     have q7:w8.cell? ⟨g,7,none⟩=some (.string z.own):=cellOf hg8 rfl
     have q8:w8.cell? ⟨g,8,none⟩=some (.string z.grp):=cellOf hg8 rfl
     have q9:w8.cell? ⟨g,9,none⟩=some (.int .i64 z.mode):=cellOf hg8 rfl
     have u4:w8.cell? ⟨w4.heap.size,4,none⟩=some (.slice none 0 0):=cellOf hR8 rfl
     have u9:w8.cell? ⟨w4.heap.size,9,none⟩=some (.string ⟨#[]⟩):=cellOf hR8 rfl
     have u10:w8.cell? ⟨w4.heap.size,10,none⟩=some (.string ⟨#[]⟩):=cellOf hR8 rfl
     have u11:w8.cell? ⟨w4.heap.size,11,none⟩=some (.int .i64 0):=cellOf hR8 rfl
     have f4:=frz hR8 4
     have f9:=frz hR8 9
     have f10:=frz hR8 10
     have f11:=frz hR8 11
     have HGq:Hid (∀ W,Below w4.heap.size w4 W→W.cell? ⟨g,2,none⟩=some (.slice z.links.A z.links.l.length z.links.c)∧W.cell? ⟨g,7,none⟩=some (.string z.own)∧W.cell? ⟨g,8,none⟩=some (.string z.grp)∧W.cell? ⟨g,9,none⟩=some (.int .i64 z.mode)):=Lib.hid fun W hW=>by
      have h1:=(hW.block _ hgl).trans HE.out.box
      exact ⟨cellOf h1 rfl,cellOf h1 rfl,cellOf h1 rfl,cellOf h1 rfl⟩
     clear hg8 hR8 hgl
     go_region_held3 (fun W'=>W'.cell? ⟨g,2,none⟩=some (.slice z.links.A z.links.l.length z.links.c)∧W'.cell? ⟨g,7,none⟩=some (.string z.own)∧W'.cell? ⟨g,8,none⟩=some (.string z.grp)∧W'.cell? ⟨g,9,none⟩=some (.int .i64 z.mode)) ((refine HGq.out _ ?_;repeat (first | exact HS8.out.2 | refine Below.drew ?_ | refine bCell ?_ (Nat.le_refl _)))) (fail)
     have hkn:¬ dd.kd=4:=fun e=>by
      unfold nodeB at hnb
      rw [if_neg (by omega)] at hnb
      cases hnb
     have hkb:(y.kd == 4)=false:=by rw [hkd];simpa using hkn
     have HSF:=Lib.hid (FnS.two HS8.out)
     generalize ((((w8.setCell ⟨w4.heap.size,4,none⟩ (.slice z.links.A z.links.l.length z.links.c)).setCell ⟨w4.heap.size,9,none⟩ (.string z.own)).setCell ⟨w4.heap.size,10,none⟩ (.string z.grp)).setCell ⟨w4.heap.size,11,none⟩ (.int .i64 z.mode)).drew=wf at *
     have hdf:=(HSF.out.2.block _ (blk_lt' HD4.out)).trans HD4.out
     have d7:wf.cell? ⟨w2.heap.size,7,none⟩=some (.int .i64 y.kd):=cellOf hdf rfl
     have hkx:¬ y.kd=4:=by rw [hkd];exact hkn
     clear hdf q2 q7 q8 q9 u4 u9 u10 u11 f4 f9 f10 f11 hkd
     have hR:=HSF.out.1
     have HRF:=Lib.hid hR
     have HXF:=Lib.hid ((HSF.out.2.block _ (blk_lt' HX4.out)).trans HX4.out)
     clear hR
     go_wp2_with (first
      | (refine wpList_load_row rfl 34 _ rfl _ rfl _ _ _ _ HRF.out Tryz.underlying34 rfl (by exact rcSize) ?_)
      | (refine wpList_store_row rfl 34 _ _ rfl _ _ rfl rfl _ _ HXF.out (by exact rcSize) rfl (by exact rcA_one _) ?_))
     refine post_cr2 rfl (by rfl) (by rfl) (setRow_heap _ _ _ _ _ _ HXF.out) Tryz.underlying34 rfl (by exact rcSize) (by rfl) ?_
     have hs:=HS1.out
     have hs3:=HB3.out.size
     refine ⟨rm2 n z og,rfl,?_,(fin_rm (q:=w.heap.size+2) HE.out HSF.out.2 (by have:=HS1.out;have:=HB3.out.size;omega) og n).2.1,(fin_lo HE.out (by have:=HS1.out;have:=HB3.out.size;omega) og n).2.1,bRow (bt HB1.out (bt HB14.out HSF.out.2)) (by omega)⟩
     rw [HOG.out,←HZ.out,←HDd.out.2]
     unfold finS
     rw [hnb]
     rw [if_neg hkn]
     rfl
   | none =>
     rw [hnb] at HNd
     have HNd2:Hid (Calls Tryz.prog 32 #[.agg (dvA y)] w7 fun e w'=>e=.returned (.tuple #[.string ⟨#[]⟩,.bool false])∧Below w7.heap.size w7 w'):=Lib.hid HNd.out
     clear HNd
     go_upto_region 10 with (first
      | (go_at_call 32;refine HNd2.out.mono ?_;rintro e w8 ⟨rfl,hb8⟩;have HS8:=Lib.hid (HS7.out.keep hb8);clear hb8)
      | (refine wpList_load_row rfl 67 _ rfl _ rfl _ _ _ _ HD7.out Tryz.underlying67 rfl (by exact devSize) ?_))
     have hdf:=(HS8.out.2.block _ (blk_lt' HD4.out)).trans HD4.out
     have d7:w8.cell? ⟨w2.heap.size,7,none⟩=some (.int .i64 y.kd):=cellOf hdf rfl
     clear hdf
     by_cases hk4:dd.kd=4
     · have hkx:y.kd=4:=by rw [hkd];exact hk4
       rw [hkx] at d7
       have hg8:=(HS8.out.2.block _ (blk_lt' HE.out.box)).trans HE.out.box
       have hR8:=HS8.out.1
       have q5:w8.cell? ⟨g,5,none⟩=some (.string z.nam):=cellOf hg8 rfl
       have u7:w8.cell? ⟨w4.heap.size,7,none⟩=some (.string ⟨#[]⟩):=cellOf hR8 rfl
       have f7:=frz hR8 7
       clear hg8 hR8 hkd hkx
       go_upto_region 12 with fail
       have HSF:=Lib.hid (HS8.out.set 7 (.string z.nam) (rm3 n z og) rfl)
       generalize w8.setCell ⟨w4.heap.size,7,none⟩ (.string z.nam)=wf at *
       clear q5 u7 f7 d7
       have hR:=HSF.out.1
       have HRF:=Lib.hid hR
       have HXF:=Lib.hid ((HSF.out.2.block _ (blk_lt' HX4.out)).trans HX4.out)
       clear hR
       go_wp2_with (first
        | (refine wpList_load_row rfl 34 _ rfl _ rfl _ _ _ _ HRF.out Tryz.underlying34 rfl (by exact rcSize) ?_)
        | (refine wpList_store_row rfl 34 _ _ rfl _ _ rfl rfl _ _ HXF.out (by exact rcSize) rfl (by exact rcA_one _) ?_))
       refine post_cr2 rfl (by rfl) (by rfl) (setRow_heap _ _ _ _ _ _ HXF.out) Tryz.underlying34 rfl (by exact rcSize) (by rfl) ?_
       have hs:=HS1.out
       have hs3:=HB3.out.size
       refine ⟨rm3 n z og,rfl,?_,(fin_rm (q:=w.heap.size+2) HE.out HSF.out.2 (by have:=HS1.out;have:=HB3.out.size;omega) og n).2.2,(fin_lo HE.out (by have:=HS1.out;have:=HB3.out.size;omega) og n).2.2,bRow (bt HB1.out (bt HB14.out HSF.out.2)) (by omega)⟩
       rw [HOG.out,←HZ.out,←HDd.out.2]
       unfold finS
       rw [hnb]
       rw [if_pos hk4]
       rfl
     · have hkx:¬ y.kd=4:=by rw [hkd];exact hk4
       have hkb:(y.kd == 4)=false:=by simpa using hkx
       have HSF:=HS8
       clear hkd
       have hR:=HSF.out.1
       have HRF:=Lib.hid hR
       have HXF:=Lib.hid ((HSF.out.2.block _ (blk_lt' HX4.out)).trans HX4.out)
       clear hR
       go_wp2_with (first
        | (refine wpList_load_row rfl 34 _ rfl _ rfl _ _ _ _ HRF.out Tryz.underlying34 rfl (by exact rcSize) ?_)
        | (refine wpList_store_row rfl 34 _ _ rfl _ _ rfl rfl _ _ HXF.out (by exact rcSize) rfl (by exact rcA_one _) ?_))
       refine post_cr2 rfl (by rfl) (by rfl) (setRow_heap _ _ _ _ _ _ HXF.out) Tryz.underlying34 rfl (by exact rcSize) (by rfl) ?_
       have hs:=HS1.out
       have hs3:=HB3.out.size
       refine ⟨rm1 n z og,rfl,?_,(fin_rm (q:=w.heap.size+2) HE.out HSF.out.2 (by have:=HS1.out;have:=HB3.out.size;omega) og n).1,(fin_lo HE.out (by have:=HS1.out;have:=HB3.out.size;omega) og n).1,bRow (bt HB1.out (bt HB14.out HSF.out.2)) (by omega)⟩
       rw [HOG.out,←HZ.out,←HDd.out.2]
       unfold finS
       rw [hnb]
       rw [if_neg hk4]
       rfl
end Go.Proofs.YtobcmlmbblgcdaaGreatDoor

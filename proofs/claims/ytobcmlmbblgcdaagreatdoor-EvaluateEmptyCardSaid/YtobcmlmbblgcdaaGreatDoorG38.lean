/-
  Contract of slices.DeleteFunc at properties, and of inherited.
  Contract of an evaluation's finds.
  Contract of an evaluation's holds. (Printed by gen_holds.py.)
  Contract of an evaluation's holds, at a match of the device. (Printed by gen_holds.py.)
  Contract of an evaluation's holds, at a match of an ancestor. (Printed by gen_holds.py.)
  Contract of an evaluation's holds, at a helper. (Printed by gen_holds.py.)
  Contract of an evaluation's holds, at a match of the draft. (Printed by gen_holds.py.)
  Contract of an evaluation's holds, joined. (Printed by gen_holds.py.)
  Contract of an evaluation's read.
-/
import Derived.Test.YtobcmlmbblgcdaaGreatDoorG36
import Derived.Deep.Upon
import Derived.Lib.SliceRun
import Derived.Test.YtobcmlmbblgcdaaGreatDoorG31
import Derived.Test.YtobcmlmbblgcdaaGreatDoorG26
import Derived.Test.YtobcmlmbblgcdaaGreatDoorG34
import Derived.Test.YtobcmlmbblgcdaaGreatDoorG13
import Derived.Test.YtobcmlmbblgcdaaGreatDoorG17
namespace Go.Proofs.YtobcmlmbblgcdaaGreatDoor
set_option maxRecDepth 100000
section
open Go.RowKit Go.Maps
structure DlA (q:At→Bool) (zs cur:List At) (i j:Nat):Prop where
 len:cur.length=zs.length
 lt:i<j
 le:j≤zs.length
 pre:cur.take i=(zs.take j).filter fun z => !q z
 post:cur.drop j=zs.drop j
theorem filter_takeA {q:At→Bool} {zs:List At} {j:Nat} (h:j<zs.length):(zs.take (j+1)).filter (fun z => !q z)=(zs.take j).filter (fun z => !q z)++if q zs[j] then [] else [zs[j]]:=by
 rw [List.take_succ_eq_append_getElem h,List.filter_append]
 congr 1
 cases hq:q zs[j] <;> simp [hq]
theorem DlA.start {q:At→Bool} {zs:List At} {k:Nat} (hno:∀ j (h:j<zs.length),j<k→q zs[j]=false) (hk:k<zs.length) (h:q zs[k]=true):DlA q zs zs k (k+1):=by
 refine ⟨rfl,Nat.lt_succ_self _,hk,?_,rfl⟩
 rw [filter_takeA hk,h,if_pos rfl,List.append_nil,List.filter_eq_self.2]
 intro z hz
 obtain ⟨j,hj,rfl⟩:=List.getElem_of_mem hz
 rw [List.length_take] at hj
 rw [List.getElem_take,hno j (by omega) (by omega)];rfl
theorem DlA.skip {q:At→Bool} {zs cur:List At} {i j:Nat} (h:DlA q zs cur i j) (hj:j<zs.length) (hq:q zs[j]=true):DlA q zs cur i (j+1) :=
 ⟨h.len,by have:=h.lt;omega,hj,by rw [filter_takeA hj,hq,if_pos rfl,List.append_nil];exact h.pre,by rw [←List.drop_drop,h.post,List.drop_drop]⟩
theorem DlA.put {q:At→Bool} {zs cur:List At} {i j:Nat} (h:DlA q zs cur i j) (hj:j<zs.length) (hq:q zs[j]=false):DlA q zs (cur.set i zs[j]) (i+1) (j+1):=by
 have hl:=h.len
 have hlt:=h.lt
 refine ⟨by rw [List.length_set];exact hl,by omega,hj,?_,?_⟩
 · rw [filter_takeA hj,hq,if_neg (by simp),←h.pre,List.take_succ_eq_append_getElem (by rw [List.length_set];omega),List.getElem_set_self,List.take_set_of_le (Nat.le_refl _)]
 · rw [List.drop_set_of_lt (by omega),←List.drop_drop,h.post,List.drop_drop]
theorem DlA.at_ {q:At→Bool} {zs cur:List At} {i j:Nat} (h:DlA q zs cur i j) (hj:j<zs.length):∃ hc:j<cur.length,cur[j]=zs[j]:=by
 have hl:=h.len
 refine ⟨by omega,?_⟩
 have h1:(cur.drop j)[0]? = (zs.drop j)[0]?:=by rw [h.post]
 rw [List.getElem?_drop,List.getElem?_drop,Nat.add_zero,List.getElem?_eq_getElem (by omega),List.getElem?_eq_getElem hj] at h1
 exact Option.some.inj h1
theorem DlA.done {q:At→Bool} {zs cur:List At} {i:Nat} (h:DlA q zs cur i zs.length):cur.take i=zs.filter fun z => !q z:=by
 have:=h.pre
 rwa [List.take_length] at this
end
section
open Go.RowKit
structure EnvE (w:World):Prop extends Env w where
 u8:Lib.Utf8Tabs 2 3 w
theorem EnvE.go {w w':World} (h:EnvE w) (hb:Below w.heap.size w w'):EnvE w':=⟨h.toEnv.go hb,Utf8Tabs_below h.u8 hb⟩
theorem EnvE.u {w:World} (h:EnvE w):EnvU w:=⟨h.toEnv.toEnv0,h.u8⟩
theorem Env.grown {w w':World} {g:Nat} (h:Env w) (hg:w.grownBy w' (some g)) (hn:nG≤g):Env w':=h.keep (grown_low hg hn h.toEnv0.size) (Nat.le_refl _)
theorem EnvE.grown {w w':World} {g:Nat} (h:EnvE w) (hg:w.grownBy w' (some g)) (hn:nG≤g):EnvE w':=by
 have hb:=grown_low hg hn h.toEnv.toEnv0.size
 have e1:2<nG:=by decide
 have e2:3<nG:=by decide
 refine ⟨h.toEnv.grown hg hn,fun c hc=>?_,fun i hi=>⟨?_,?_⟩⟩
 · exact (hb.cell e1).trans (h.u8.1 c hc)
 · exact (hb.cell e2).trans (h.u8.2 i hi).1
 · exact (hb.cell e2).trans (h.u8.2 i hi).2
attribute [local go_sem ↓] ld_dr st_dr
end
section
open Go.RowKit
theorem ev_setab (c:EmC) (x:Em) (d:Dv):setAll (evA c x) 43 (dvA d).toList=evA c { x with ab:=d }:=by kernel_rfl
theorem EvO.resS {w:World} {g:Nat} {c:EmC} {x:Em} (h:EvO w g c x) (s:ByteArray):EvO (w.setCell ⟨g,10,none⟩ (.string s)) g c { x with dr:={ x.dr with res:=s } }∧w.grownBy (w.setCell ⟨g,10,none⟩ (.string s)) (some g) :=
 h.one 10 _ { x with dr:={ x.dr with res:=s } } rfl ⟨h.dr.pr,h.dr.tg,h.dr.lk,h.dr.rn,h.dr.ld,h.dr.cl⟩ h.ab h.offx
theorem EvO.reS {w:World} {g:Nat} {c:EmC} {x:Em} (h:EvO w g c x) (b:Bool):EvO (w.setCell ⟨g,53,none⟩ (.bool b)) g c { x with re:=b }∧w.grownBy (w.setCell ⟨g,53,none⟩ (.bool b)) (some g) :=
 h.one 53 _ { x with re:=b } rfl h.dr h.ab h.offx
theorem EvO.abS {w w5:World} {g:Nat} {c:EmC} {x:Em} (h:EvO w g c x) (hb:Below w.heap.size w w5) (d:Dv) (hd:DvN w5 d) (hf:∀ p,d.ats.A=some p→p.block≠g):EvO (w5.setRow g (evA c { x with ab:=d })) g c { x with ab:=d }∧w.grownBy (w5.setRow g (evA c { x with ab:=d })) (some g) :=
 h.set hb { x with ab:=d } (h.dr.keep hb) hd (fun a ha=>by
  rcases List.mem_append.1 ha with h1 | h1
  · exact h.offx a (List.mem_append_left _ h1)
  · rw [List.mem_singleton.1 h1];exact hf)
theorem ld_dev (v:Value):Instr.loadAt devT v=ldG devT v:=by unfold ldG;rfl
theorem st_dev (v u:Value):Instr.storeAt devT v u=stG devT v u:=by unfold stG;rfl
theorem ldDev_at {w:World} {g:Nat} {c:EmC} {x:Em} (h:w.heap[g]? = some (.cells (evA c x) evT (0,0))):(ldG devT (.pointer (some ⟨g,31,none⟩))).run Tryz.prog w=.ok (dvV c.dev) w :=
 ldG_at (P:=Tryz.prog) (w:=w) (T:=devT) (n:=10) (g:=g) (o:=31) (cs:=evA c x) (by exact Tryz.isAgg67) (by exact Tryz.sizeOf67) h (by show 31+10≤54;omega)
theorem stAb_at {w:World} {g:Nat} {c:EmC} {x:Em} (h:w.heap[g]? = some (.cells (evA c x) evT (0,0))) (d:Dv):(stG devT (.pointer (some ⟨g,43,none⟩)) (dvV d)).run Tryz.prog w=.ok () (w.setRow g (evA c { x with ab:=d })) :=
by
 have h1:=stG_at (P:=Tryz.prog) (w:=w) (T:=devT) (g:=g) (o:=43) (cs:=evA c x) (vs:=dvA d) h (by show 43+10≤54;omega) (by show 0<10;omega) (by exact devSize) (dvA_one d)
 rw [ev_setab] at h1
 exact h1
theorem EmZ.dok {c:EmC} {x:Em} {k:Nat} (h:EmZ c x k) {w:World} (ht:TrN w c.tA c.tds) {d:Dv} (hd:d.d∈dsD c.tds):DvOk d:=by
 have h1:=h.dv _ hd
 exact ⟨Nat.le_trans h1.1.og (by decide),Nat.le_trans h1.2.1 (by decide),Nat.le_trans h1.2.2.1 (by decide),fun x hx=>Nat.le_trans (h1.2.2.2.2.2 x hx) (by decide),Nat.le_trans (h.atl w ht hd) (by decide)⟩
theorem EmZ.drz {c:EmC} {x:Em} {k:Nat} (h:EmZ c x k):DrZ x.dr.d:=⟨Nat.le_trans h.gd.pl (by decide),h.gd.pv,h.gd.rs,Nat.le_trans h.gd.tl (by decide),h.gd.tv⟩
theorem ancS_mem {l:List Tm} {ds:List Dd} {n:Int} {a:Dd} (h:ancS l ds n=some a):a∈ds:=chS_mem (List.mem_of_find?_eq_some h)
def Kpt (g:Nat) (w W:World):Prop:=∀ b,b<w.heap.size→b≠g→W.heap[b]? = w.heap[b]?
theorem Kpt.refl (g:Nat) (w:World):Kpt g w w:=fun _ _ _=>rfl
theorem Kpt.of {g:Nat} {w W:World} (h:w.grownBy W (some g)):Kpt g w W:=fun _b hb hn=>grown_off h hb hn
theorem Kpt.below {g:Nat} {w W:World} (h:Below w.heap.size w W):Kpt g w W:=fun b hb _=>h.block b hb
end
section
open Go.RowKit
attribute [local go_sem ↓] ld_dr st_dr ld_dev st_dev
set_option maxHeartbeats 8000000 in
theorem EHolds_static (g:Nat) (c:EmC) (x:Em) (k:Nat) (t:Tm) (y:Rl) (w:World) (h:EvO w g c x) (hz:EmZ c x k) (_hk1:k+1≤100000) (hE:EnvE w) (_hg:nG≤g) (hs:t.value.size≤1000000) (hS:staticB t=true) :
 Calls Tryz.prog 86 #[.pointer (some ⟨g,0,none⟩),tmV t,.agg #[.string y.file,.int .i64 y.line,.slice y.tms.A y.tms.l.length y.tms.c]] w (EvQ w g c x (holdsE c.c y.tms.l x.e t).1 (.bool (holdsE c.c y.tms.l x.e t).2)):=by
 obtain ⟨ky,nmm,op,vl⟩:=t
 dsimp only at hs
 obtain ⟨w1,hw1⟩:∃ w1,(w.alloc (.cells #[.int .i64 ky,.string nmm,.int .i64 op,.string vl] conT)).alloc (.cells #[.string y.file,.int .i64 y.line,.slice y.tms.A y.tms.l.length y.tms.c] 44)=w1:=⟨_,rfl⟩
 have hb1:Below w.heap.size w w1:=by rw [←hw1];exact bAl (below_alloc _ _)
 have hr1:w1.heap[w.heap.size]? = some (.cells #[.int .i64 ky,.string nmm,.int .i64 op,.string vl] conT (0,0)):=by rw [←hw1];exact ((below_alloc _ _).block _ (by simp)).trans (heap_alloc_new _ _)
 have hr2:w1.heap[w.heap.size+1]? = some (.cells #[.string y.file,.int .i64 y.line,.slice y.tms.A y.tms.l.length y.tms.c] 44 (0,0)):=by
  rw [←hw1]
  have:=heap_alloc_new (w.alloc (.cells #[.int .i64 ky,.string nmm,.int .i64 op,.string vl] conT)) (.cells #[.string y.file,.int .i64 y.line,.slice y.tms.A y.tms.l.length y.tms.c] 44)
  simpa using this
 have hs1:w1.heap.size=w.heap.size+2:=by rw [←hw1];simp
 have hgl:g<w.heap.size:=blk_lt' h.box
 have HSx:Hid (∀ W,Kpt g w1 W→W.cell? ⟨w.heap.size,0,none⟩=some (.int .i64 ky)∧W.cell? ⟨w.heap.size,1,none⟩=some (.string nmm)∧W.cell? ⟨w.heap.size,2,none⟩=some (.int .i64 op)∧W.cell? ⟨w.heap.size,3,none⟩=some (.string vl)):=Lib.hid fun W hW=>by
  have h2:=(hW _ (blk_lt' hr1) (by omega)).trans hr1
  exact ⟨cellOf h2 rfl,cellOf h2 rfl,cellOf h2 rfl,cellOf h2 rfl⟩
 have HSy:Hid (∀ W,Kpt g w1 W→W.cell? ⟨w.heap.size+1,2,none⟩=some (.slice y.tms.A y.tms.l.length y.tms.c)):=Lib.hid fun W hW=>cellOf ((hW _ (blk_lt' hr2) (by omega)).trans hr2) rfl
 have h1:=h.keep hb1
 have hgW:g<w1.heap.size:=by omega
 have hlW:w.heap.size<w1.heap.size:=by omega
 have hlX:w.heap.size+1<w1.heap.size:=by omega
 have hE1:=hE.go hb1
 have HSt:=Lib.hid (fun W=>PStatic_any (⟨ky,nmm,op,vl⟩:Tm) W)
 have HUp:=Lib.hid (fun W=>PUpward_any (⟨ky,nmm,op,vl⟩:Tm) W)
 have HW1:=Lib.hid hw1
 have HB1:=Lib.hid hb1
 have HH1:=Lib.hid h1
 have HZ:=Lib.hid hz
 have HE1:=Lib.hid hE1
 have HG1:=Lib.hid (grown_below hb1 (some g))
 have hst:staticB ⟨ky,nmm,op,vl⟩=true:=hS
 have HD:=Lib.hid (fun (W:World) (hW:Below w1.heap.size w1 W)=>PDevice_any ⟨ky,nmm,op,vl⟩ c.dev W (by dsimp only;omega) (hz.dok h.inp.tr hz.dev) ((h1.dev.keep hW).row))
 have HQ:Hid (∀ W',Below w1.heap.size w1 W'→W'.cell? ⟨w.heap.size,0,none⟩=some (.int .i64 ky)∧W'.cell? ⟨w.heap.size,1,none⟩=some (.string nmm)∧W'.cell? ⟨w.heap.size,2,none⟩=some (.int .i64 op)∧W'.cell? ⟨w.heap.size,3,none⟩=some (.string vl)∧(ldG devT (.pointer (some ⟨g,31,none⟩))).run Tryz.prog W'=.ok (dvV c.dev) W'):=Lib.hid fun W' hW'=>by
  obtain ⟨q0,q1,q2,q3⟩:=HSx.out W' (Kpt.below hW')
  exact ⟨q0,q1,q2,q3,ldDev_at ((hW'.block _ hgW).trans h1.box)⟩
 have hF:holdsE c.c y.tms.l x.e ⟨ky,nmm,op,vl⟩=(x.e,devB ⟨ky,nmm,op,vl⟩ c.dev):=by unfold holdsE;rw [if_pos hS];rfl
 rw [hF]
 simp only [hst] at HSt
 generalize devB ⟨ky,nmm,op,vl⟩ c.dev=bb at *
 clear hF hst hS HUp h hz hE hE1 hw1 hb1 hr1 hr2 hs1 h1
 unfold dvV at *
 unfold tmV at *
 go_enter Tryz.func86,Tryz.ntmps86
 go_upto_region 1 with fail
 rw [HW1.out]
 obtain ⟨c0,c1,c2,c3⟩:=HSx.out w1 (Kpt.refl _ _)
 go_upto_region 2 with (go_at_call 106;refine (HSt.out _).mono ?_;rintro e w2 ⟨rfl,hb2⟩;have HB2:=Lib.hid hb2;obtain ⟨d0,d1,d2,d3⟩:=HSx.out w2 (Kpt.below hb2);(have hgW2:g<w2.heap.size:=Nat.lt_of_lt_of_le hgW hb2.size);(have hlW2:w.heap.size<w2.heap.size:=Nat.lt_of_lt_of_le hlW hb2.size);(have hlX2:w.heap.size+1<w2.heap.size:=Nat.lt_of_lt_of_le hlX hb2.size);clear hb2 c0 c1 c2 c3)
 go_region_held3 (fun W'=>W'.cell? ⟨w.heap.size,0,none⟩=some (.int .i64 ky)∧W'.cell? ⟨w.heap.size,1,none⟩=some (.string nmm)∧W'.cell? ⟨w.heap.size,2,none⟩=some (.int .i64 op)∧W'.cell? ⟨w.heap.size,3,none⟩=some (.string vl)∧(ldG devT (.pointer (some ⟨g,31,none⟩))).run Tryz.prog W'=.ok (.agg #[.int .i64 c.dev.ix,.int .i64 c.dev.pa,.string c.dev.nam,.string c.dev.og,.string c.dev.sb,.string c.dev.dr,.string c.dev.al,.int .i64 c.dev.kd,.int .i64 c.dev.nb,.slice c.dev.ats.A c.dev.ats.l.length c.dev.ats.c]) W') ((refine HQ.out _ ?_;first | exact bt HB2.out (Below.refl _ _).drew | exact hB3)) ((go_at_call 107;refine (HD.out _ (bt HB2.out (Below.refl _ _).drew)).mono ?_;rintro e w3 ⟨rfl,hb3⟩;(have hB3:Below w1.heap.size w1 w3:=bt (bt HB2.out (Below.refl _ _).drew) hb3)))
 go_wp2
 go_ret
 exact ⟨x,rfl,rfl,HH1.out.keep hB3,HG1.out.trans (grown_below hB3 _),Fr.same rfl rfl⟩
end
section
open Go.RowKit
attribute [local go_sem ↓] ld_dr st_dr ld_dev st_dev
end
section
open Go.RowKit
attribute [local go_sem ↓] ld_dr st_dr ld_dev st_dev
set_option maxHeartbeats 8000000 in
theorem EHolds_prog (g:Nat) (c:EmC) (x:Em) (k:Nat) (t:Tm) (y:Rl) (w:World) (h:EvO w g c x) (hz:EmZ c x k) (_hk1:k+1≤100000) (hE:EnvE w) (_hg:nG≤g) (hs:t.value.size≤1000000) (hS:staticB t=false) (hU:upB t=false) (hK:t.key=12) :
 Calls Tryz.prog 86 #[.pointer (some ⟨g,0,none⟩),tmV t,.agg #[.string y.file,.int .i64 y.line,.slice y.tms.A y.tms.l.length y.tms.c]] w (EvQ w g c x (holdsE c.c y.tms.l x.e t).1 (.bool (holdsE c.c y.tms.l x.e t).2)):=by
 obtain ⟨ky,nmm,op,vl⟩:=t
 dsimp only at hs
 obtain ⟨w1,hw1⟩:∃ w1,(w.alloc (.cells #[.int .i64 ky,.string nmm,.int .i64 op,.string vl] conT)).alloc (.cells #[.string y.file,.int .i64 y.line,.slice y.tms.A y.tms.l.length y.tms.c] 44)=w1:=⟨_,rfl⟩
 have hb1:Below w.heap.size w w1:=by rw [←hw1];exact bAl (below_alloc _ _)
 have hr1:w1.heap[w.heap.size]? = some (.cells #[.int .i64 ky,.string nmm,.int .i64 op,.string vl] conT (0,0)):=by rw [←hw1];exact ((below_alloc _ _).block _ (by simp)).trans (heap_alloc_new _ _)
 have hr2:w1.heap[w.heap.size+1]? = some (.cells #[.string y.file,.int .i64 y.line,.slice y.tms.A y.tms.l.length y.tms.c] 44 (0,0)):=by
  rw [←hw1]
  have:=heap_alloc_new (w.alloc (.cells #[.int .i64 ky,.string nmm,.int .i64 op,.string vl] conT)) (.cells #[.string y.file,.int .i64 y.line,.slice y.tms.A y.tms.l.length y.tms.c] 44)
  simpa using this
 have hs1:w1.heap.size=w.heap.size+2:=by rw [←hw1];simp
 have hgl:g<w.heap.size:=blk_lt' h.box
 have HSx:Hid (∀ W,Kpt g w1 W→W.cell? ⟨w.heap.size,0,none⟩=some (.int .i64 ky)∧W.cell? ⟨w.heap.size,1,none⟩=some (.string nmm)∧W.cell? ⟨w.heap.size,2,none⟩=some (.int .i64 op)∧W.cell? ⟨w.heap.size,3,none⟩=some (.string vl)):=Lib.hid fun W hW=>by
  have h2:=(hW _ (blk_lt' hr1) (by omega)).trans hr1
  exact ⟨cellOf h2 rfl,cellOf h2 rfl,cellOf h2 rfl,cellOf h2 rfl⟩
 have HSy:Hid (∀ W,Kpt g w1 W→W.cell? ⟨w.heap.size+1,2,none⟩=some (.slice y.tms.A y.tms.l.length y.tms.c)):=Lib.hid fun W hW=>cellOf ((hW _ (blk_lt' hr2) (by omega)).trans hr2) rfl
 have h1:=h.keep hb1
 have hgW:g<w1.heap.size:=by omega
 have hlW:w.heap.size<w1.heap.size:=by omega
 have hlX:w.heap.size+1<w1.heap.size:=by omega
 have hE1:=hE.go hb1
 have HSt:=Lib.hid (fun W=>PStatic_any (⟨ky,nmm,op,vl⟩:Tm) W)
 have HUp:=Lib.hid (fun W=>PUpward_any (⟨ky,nmm,op,vl⟩:Tm) W)
 have HW1:=Lib.hid hw1
 have HB1:=Lib.hid hb1
 have HH1:=Lib.hid h1
 have HZ:=Lib.hid hz
 have HE1:=Lib.hid hE1
 have HG1:=Lib.hid (grown_below hb1 (some g))
 have hst:staticB ⟨ky,nmm,op,vl⟩=false:=hS
 simp only [hst] at HSt
 have hup:upB ⟨ky,nmm,op,vl⟩=false:=hU
 simp only [hup] at HUp
 have hky:ky=12:=hK
 subst hky
 have hF:holdsE c.c y.tms.l x.e ⟨12,nmm,op,vl⟩=({ tickE x.e (callE c.c x.e vl).2.1 with dr:={ (tickE x.e (callE c.c x.e vl).2.1).dr with res:=(callE c.c x.e vl).1 } },((callE c.c x.e vl).2.2 == 0) == (op == 1)):=by
  unfold holdsE
  rw [hst,if_neg (by simp),hup,if_neg (by simp),if_pos rfl]
 rw [hF]
 have HC:=Lib.hid (fun (W:World) (hW:Below w1.heap.size w1 W)=>ECall_any g c x k vl W (h1.keep hW) hz ((hE1.go hW).toEnv) hs)
 generalize tickE x.e (callE c.c x.e vl).2.1=te at *
 generalize (callE c.c x.e vl).1=ou at *
 generalize ((callE c.c x.e vl).2.2 == 0)=bb at *
 clear hF hst hS hup hU hK h hz hE hE1 hw1 hb1 hr1 hr2 hs1 h1
 unfold tmV at *
 go_enter Tryz.func86,Tryz.ntmps86
 go_upto_region 1 with fail
 rw [HW1.out]
 obtain ⟨c0,c1,c2,c3⟩:=HSx.out w1 (Kpt.refl _ _)
 go_wp2_with (first
  | (go_at_call 106;refine (HSt.out _).mono ?_;rintro e w2 ⟨rfl,hb2⟩;have HB2:=Lib.hid hb2;obtain ⟨d0,d1,d2,d3⟩:=HSx.out w2 (Kpt.below hb2);(have hgW2:g<w2.heap.size:=Nat.lt_of_lt_of_le hgW hb2.size);(have hlW2:w.heap.size<w2.heap.size:=Nat.lt_of_lt_of_le hlW hb2.size);(have hlX2:w.heap.size+1<w2.heap.size:=Nat.lt_of_lt_of_le hlX hb2.size);clear hb2 c0 c1 c2 c3)
  | (go_at_call 108;refine (HUp.out _).mono ?_;rintro e w3 ⟨rfl,hb3⟩;have HB3:=Lib.hid (bt HB2.out hb3);obtain ⟨e0,e1,e2,e3⟩:=HSx.out w3 (Kpt.below HB3.out);(have hgW3:g<w3.heap.size:=Nat.lt_of_lt_of_le hgW2 hb3.size);(have hlW3:w.heap.size<w3.heap.size:=Nat.lt_of_lt_of_le hlW2 hb3.size);(have hlX3:w.heap.size+1<w3.heap.size:=Nat.lt_of_lt_of_le hlX2 hb3.size);clear hb3 d0 d1 d2 d3)
  | (go_at_call 110;refine (HC.out w3 HB3.out).mono ?_;rintro e w4 ⟨x4,rfl,hx4,h4,g4,f4⟩;have HF4:=Lib.hid f4;obtain ⟨h5,g5⟩:=h4.resS ou;have HX4:=Lib.hid hx4;have HO5:=Lib.hid h5;have q10:=cellOf (j:=10) h4.box rfl;have f10:=frz h4.box 10;have HG5:=Lib.hid ((grown_below HB3.out (some g)).trans (g4.trans g5));obtain ⟨d0,d1,d2,d3⟩:=HSx.out _ (Kpt.of HG5.out);(have hlW5:w.heap.size<(w4.setCell ⟨g,10,none⟩ (.string ou)).heap.size:=Nat.lt_of_lt_of_le hlW HG5.out.size);clear h4 g4 h5 g5 hx4 f4 e0 e1 e2 e3))
 go_ret
 refine ⟨_,rfl,?_,HO5.out,HG1.out.trans HG5.out,Fr.trans (y:=x) (Fr.same rfl rfl) ⟨HF4.out.d,HF4.out.a⟩ (Nat.le_trans HB1.out.size HB3.out.size)⟩
 unfold Em.e
 dsimp only
 have e9:=HX4.out
 unfold Em.e at e9
 rw [←e9];rfl
end
section
open Go.RowKit
attribute [local go_sem ↓] ld_dr st_dr ld_dev st_dev
set_option maxHeartbeats 8000000 in
theorem EHolds_draft (g:Nat) (c:EmC) (x:Em) (k:Nat) (t:Tm) (y:Rl) (w:World) (h:EvO w g c x) (hz:EmZ c x k) (_hk1:k+1≤100000) (hE:EnvE w) (_hg:nG≤g) (hs:t.value.size≤1000000) (hS:staticB t=false) (hU:upB t=false) (hK1:t.key≠12) (hK2:t.key≠14) :
 Calls Tryz.prog 86 #[.pointer (some ⟨g,0,none⟩),tmV t,.agg #[.string y.file,.int .i64 y.line,.slice y.tms.A y.tms.l.length y.tms.c]] w (EvQ w g c x (holdsE c.c y.tms.l x.e t).1 (.bool (holdsE c.c y.tms.l x.e t).2)):=by
 obtain ⟨ky,nmm,op,vl⟩:=t
 dsimp only at hs
 obtain ⟨w1,hw1⟩:∃ w1,(w.alloc (.cells #[.int .i64 ky,.string nmm,.int .i64 op,.string vl] conT)).alloc (.cells #[.string y.file,.int .i64 y.line,.slice y.tms.A y.tms.l.length y.tms.c] 44)=w1:=⟨_,rfl⟩
 have hb1:Below w.heap.size w w1:=by rw [←hw1];exact bAl (below_alloc _ _)
 have hr1:w1.heap[w.heap.size]? = some (.cells #[.int .i64 ky,.string nmm,.int .i64 op,.string vl] conT (0,0)):=by rw [←hw1];exact ((below_alloc _ _).block _ (by simp)).trans (heap_alloc_new _ _)
 have hr2:w1.heap[w.heap.size+1]? = some (.cells #[.string y.file,.int .i64 y.line,.slice y.tms.A y.tms.l.length y.tms.c] 44 (0,0)):=by
  rw [←hw1]
  have:=heap_alloc_new (w.alloc (.cells #[.int .i64 ky,.string nmm,.int .i64 op,.string vl] conT)) (.cells #[.string y.file,.int .i64 y.line,.slice y.tms.A y.tms.l.length y.tms.c] 44)
  simpa using this
 have hs1:w1.heap.size=w.heap.size+2:=by rw [←hw1];simp
 have hgl:g<w.heap.size:=blk_lt' h.box
 have HSx:Hid (∀ W,Kpt g w1 W→W.cell? ⟨w.heap.size,0,none⟩=some (.int .i64 ky)∧W.cell? ⟨w.heap.size,1,none⟩=some (.string nmm)∧W.cell? ⟨w.heap.size,2,none⟩=some (.int .i64 op)∧W.cell? ⟨w.heap.size,3,none⟩=some (.string vl)):=Lib.hid fun W hW=>by
  have h2:=(hW _ (blk_lt' hr1) (by omega)).trans hr1
  exact ⟨cellOf h2 rfl,cellOf h2 rfl,cellOf h2 rfl,cellOf h2 rfl⟩
 have HSy:Hid (∀ W,Kpt g w1 W→W.cell? ⟨w.heap.size+1,2,none⟩=some (.slice y.tms.A y.tms.l.length y.tms.c)):=Lib.hid fun W hW=>cellOf ((hW _ (blk_lt' hr2) (by omega)).trans hr2) rfl
 have h1:=h.keep hb1
 have hgW:g<w1.heap.size:=by omega
 have hlW:w.heap.size<w1.heap.size:=by omega
 have hlX:w.heap.size+1<w1.heap.size:=by omega
 have hE1:=hE.go hb1
 have HSt:=Lib.hid (fun W=>PStatic_any (⟨ky,nmm,op,vl⟩:Tm) W)
 have HUp:=Lib.hid (fun W=>PUpward_any (⟨ky,nmm,op,vl⟩:Tm) W)
 have HW1:=Lib.hid hw1
 have HB1:=Lib.hid hb1
 have HH1:=Lib.hid h1
 have HZ:=Lib.hid hz
 have HE1:=Lib.hid hE1
 have HG1:=Lib.hid (grown_below hb1 (some g))
 have hst:staticB ⟨ky,nmm,op,vl⟩=false:=hS
 simp only [hst] at HSt
 have hup:upB ⟨ky,nmm,op,vl⟩=false:=hU
 simp only [hup] at HUp
 have n12:ky≠12:=hK1
 have n14:ky≠14:=hK2
 have hF:holdsE c.c y.tms.l x.e ⟨ky,nmm,op,vl⟩=(x.e,draftB ⟨ky,nmm,op,vl⟩ c.act x.dr.d):=by
  unfold holdsE
  rw [hst,if_neg (by simp),hup,if_neg (by simp),if_neg n12,if_neg n14];rfl
 rw [hF]
 have HD:=Lib.hid (fun (W:World) (hW:Below w1.heap.size w1 W)=>PMDraft_any ⟨ky,nmm,op,vl⟩ c.act x.dr W (h1.keep hW).dr hz.drz hs hz.act)
 generalize draftB ⟨ky,nmm,op,vl⟩ c.act x.dr.d=bb at *
 have HQ:Hid (∀ W',Below w1.heap.size w1 W'→W'.cell? ⟨w.heap.size,0,none⟩=some (.int .i64 ky)∧W'.cell? ⟨w.heap.size,1,none⟩=some (.string nmm)∧W'.cell? ⟨w.heap.size,2,none⟩=some (.int .i64 op)∧W'.cell? ⟨w.heap.size,3,none⟩=some (.string vl)∧W'.cell? ⟨g,14,none⟩=some (.string c.act)∧(ldG drT (.pointer (some ⟨g,0,none⟩))).run Tryz.prog W'=.ok (.agg (drA x.dr)) W'):=Lib.hid fun W' hW'=>by
  obtain ⟨q0,q1,q2,q3⟩:=HSx.out W' (Kpt.below hW')
  exact ⟨q0,q1,q2,q3,cellOf ((hW'.block _ hgW).trans h1.box) rfl,ldDr_at (h1.keep hW')⟩
 clear hF hst hS hup hU hK1 hK2 h hz hE hE1 hw1 hb1 hr1 hr2 hs1 h1
 unfold tmV at *
 go_enter Tryz.func86,Tryz.ntmps86
 go_upto_region 1 with fail
 rw [HW1.out]
 obtain ⟨c0,c1,c2,c3⟩:=HSx.out w1 (Kpt.refl _ _)
 go_upto_region 17 with (first
  | (go_at_call 106;refine (HSt.out _).mono ?_;rintro e w2 ⟨rfl,hb2⟩;have HB2:=Lib.hid hb2;obtain ⟨d0,d1,d2,d3⟩:=HSx.out w2 (Kpt.below hb2);(have hgW2:g<w2.heap.size:=Nat.lt_of_lt_of_le hgW hb2.size);(have hlW2:w.heap.size<w2.heap.size:=Nat.lt_of_lt_of_le hlW hb2.size);(have hlX2:w.heap.size+1<w2.heap.size:=Nat.lt_of_lt_of_le hlX hb2.size);clear hb2 c0 c1 c2 c3)
  | (go_at_call 108;refine (HUp.out _).mono ?_;rintro e w3 ⟨rfl,hb3⟩;have HB3:=Lib.hid (bt HB2.out hb3);obtain ⟨e0,e1,e2,e3⟩:=HSx.out w3 (Kpt.below HB3.out);(have hgW3:g<w3.heap.size:=Nat.lt_of_lt_of_le hgW2 hb3.size);(have hlW3:w.heap.size<w3.heap.size:=Nat.lt_of_lt_of_le hlW2 hb3.size);(have hlX3:w.heap.size+1<w3.heap.size:=Nat.lt_of_lt_of_le hlX2 hb3.size);clear hb3 d0 d1 d2 d3))
 go_region_held3 (fun W'=>W'.cell? ⟨w.heap.size,0,none⟩=some (.int .i64 ky)∧W'.cell? ⟨w.heap.size,1,none⟩=some (.string nmm)∧W'.cell? ⟨w.heap.size,2,none⟩=some (.int .i64 op)∧W'.cell? ⟨w.heap.size,3,none⟩=some (.string vl)∧W'.cell? ⟨g,14,none⟩=some (.string c.act)∧(ldG drT (.pointer (some ⟨g,0,none⟩))).run Tryz.prog W'=.ok (.agg (drA x.dr)) W') ((refine HQ.out _ ?_;first | exact bt HB3.out (Below.refl _ _).drew | exact hB4)) ((go_at_call 112;refine (HD.out _ (bt HB3.out (Below.refl _ _).drew)).mono ?_;rintro e w4 ⟨rfl,hb4⟩;(have hB4:Below w1.heap.size w1 w4:=bt (bt HB3.out (Below.refl _ _).drew) hb4)))
 go_wp2
 go_ret
 exact ⟨x,rfl,rfl,HH1.out.keep hB4,HG1.out.trans (grown_below hB4 _),Fr.same rfl rfl⟩
end
section
open Go.RowKit
theorem EHolds_any (g:Nat) (c:EmC) (x:Em) (k:Nat) (t:Tm) (y:Rl) (w:World) (h:EvO w g c x) (hz:EmZ c x k) (hk1:k+1≤100000) (hE:EnvE w) (hg:nG≤g) (hs:t.value.size≤1000000) (_hr:RowN w y.tms.A 4 y.tms.l.length (cellsOf encTm y.tms.l)) (_hnil:y.tms.A=none→y.tms.c=0) (_hoff:∀ p,y.tms.A=some p→p.block≠g) (_hl:y.tms.l.length≤1000000) (_hv:∀ t∈y.tms.l,t.value.size≤1000000) (hR:KeyS t) :
 Calls Tryz.prog 86 #[.pointer (some ⟨g,0,none⟩),tmV t,.agg #[.string y.file,.int .i64 y.line,.slice y.tms.A y.tms.l.length y.tms.c]] w (EvQ w g c x (holdsE c.c y.tms.l x.e t).1 (.bool (holdsE c.c y.tms.l x.e t).2)):=by
 cases hS:staticB t with
 | true=>exact EHolds_static g c x k t y w h hz hk1 hE hg hs hS
 | false =>
   cases hU:upB t with
   | true =>
     exfalso
     unfold upB at hU
     simp at hU
     have h9:=hR
     dsimp only [KeyS] at h9
     omega
   | false =>
     by_cases h12:t.key=12
     · exact EHolds_prog g c x k t y w h hz hk1 hE hg hs hS hU h12
     · by_cases h14:t.key=14
       · exact absurd hR (by dsimp only [KeyS];omega)
       · exact EHolds_draft g c x k t y w h hz hk1 hE hg hs hS hU h12 h14
end
section
open Go.RowKit
theorem chgInfo:(Tryz.prog.info? chgT).map (fun i=>(i.zero,i.size,i.bytes))=some (some (.agg #[.int .i64 0,.string ⟨#[]⟩,.int .i64 0,.string ⟨#[]⟩]),4,48):=by kernel_rfl
theorem app_chg {B:Nat} {A:Option Addr} {c:Nat} {l:List Tm} (t:Tm) (w:World) (h:w.ownsRow B chgT 4 (.slice A l.length c) l.length (cellsOf encTm l)) (hl:l.length≤1000000) (hB:B≤w.heap.size) :
 ∃ A' c' w',(apG #[155,155] 155 #[.slice A l.length c,.slice (some ⟨w.heap.size,0,none⟩) 1 1]).run Tryz.prog (w.alloc (.cells #[.int .i64 t.key,.string t.name,.int .i64 t.op,.string t.value] chgT))=.ok (.slice A' (l.length+1) c') w'∧w'.ownsRow B chgT 4 (.slice A' (l.length+1) c') (l.length+1) (cellsOf encTm (l++[t]))∧w.grownBy w' (Value.slice A l.length c).ownBlock∧∀ p,A'=some p→w.heap.size≤p.block∨∃ q,A=some q∧q.block=p.block:=by
 obtain ⟨i0,hi0,hz0,hz1,hz2⟩:=info_parts chgInfo
 obtain ⟨v',w',h1,h2,h3,_,h5⟩:=run_append_own_at (P:=Tryz.prog) (w.alloc (.cells #[.int .i64 t.key,.string t.name,.int .i64 t.op,.string t.value] chgT)) B 155 155 chgT i0 _ 4 48 Tryz.underlying155 hi0 hz0 hz1 hz2 rfl (by decide) (.slice A l.length c) l.length _ (own_below2 h (below_alloc _ _)) ⟨w.heap.size,0,none⟩ 1 1 (encTm t) rfl (fun j u hu=>by
  rw [add_at,Nat.zero_add]
  exact cellOf (heap_alloc_new w _) (by rw [←hu,←Array.getElem?_toList];rfl)) (by simp [encTm,Value.oneCell']) (by unfold maxLen;omega) (by omega) (Nat.le_trans hB (below_alloc w _).size)
 rw [ap_g] at h1
 obtain ⟨NA,nc,rfl⟩:=own_slice h2
 have hc:cellsOf encTm (l++[t])=cellsOf encTm l++encTm t:=by rw [cellsOf_append];simp [cellsOf]
 refine ⟨NA,nc,w',h1,by rw [hc];exact h2,(grown_below (below_alloc w _) _).trans h3,fun p hp=>?_⟩
 have hpb:(Value.slice NA (l.length+1) nc).ownBlock=some p.block:=by rw [hp];rfl
 rcases h5 with k | k
 · rw [hpb] at k
   obtain ⟨q,e1,e2⟩:=slice_own k.symm
   exact Or.inr ⟨q,e1,e2⟩
 · rw [hpb] at k
   have:=Option.some.inj k
   have:=(below_alloc w (.cells #[.int .i64 t.key,.string t.name,.int .i64 t.op,.string t.value] chgT)).size
   exact Or.inl (by omega)
theorem match_drop (c:Cst) (l:List Tm) {k:Nat} (hk:k<l.length) (x:Ev):matchE c l (l.drop k) x=if matchB l[k].op then (if (holdsE c l x l[k]).2 then matchE c l (l.drop (k+1)) (holdsE c l x l[k]).1 else ((holdsE c l x l[k]).1,false)) else matchE c l (l.drop (k+1)) x:=by
 rw [List.drop_eq_getElem_cons hk]
 rfl
theorem match_end (c:Cst) (l:List Tm) (x:Ev):matchE c l (l.drop l.length) x=(x,true):=by
 rw [List.drop_length];rfl
def chgK (l:List Tm) (k:Nat):List Tm:=(l.take k).filter fun t => !matchB t.op
theorem chgK_succ (l:List Tm) {k:Nat} (hk:k<l.length):chgK l (k+1)=if matchB l[k].op then chgK l k else chgK l k++[l[k]]:=by
 unfold chgK
 rw [List.take_succ_eq_append_getElem hk,List.filter_append]
 cases hm:matchB l[k].op <;> simp [hm]
theorem chgK_len (l:List Tm) (k:Nat):(chgK l k).length≤k:=Nat.le_trans (List.length_filter_le _ _) (by rw [List.length_take];omega)
theorem chgK_mem {l:List Tm} {k:Nat} {t:Tm} (h:t∈chgK l k):t∈l:=List.mem_of_mem_take (List.mem_filter.1 h).1
theorem fold_asg (c:Cst) (l:List Tm) (x:Ev) {k:Nat} (hk:k<l.length):(l.take (k+1)).foldl (asgE c) x=asgE c ((l.take k).foldl (asgE c) x) l[k]:=by
 rw [List.take_succ_eq_append_getElem hk,List.foldl_append];rfl
theorem holds_ab {c:Cst} {l:List Tm} {x:Ev} {t:Tm} (h:x.ab∈c.i.tree):(holdsE c l x t).1.ab∈c.i.tree:=by
 unfold holdsE
 split
 · exact h
 split
 · split
   · exact h
   · split
     · rename_i a ha;exact ancS_mem ha
     · exact h
 split
 · exact h
 split
 · unfold findsE
   split
   · exact h
   split
   · split <;> exact h
   split <;> exact h
 · exact h
theorem asgs_ab {c:Cst}:∀ (l:List Tm) (x:Ev),(l.foldl (asgE c) x).ab=x.ab
 | [],_=>rfl
 | t :: l,x=>by rw [List.foldl_cons,asgs_ab l];rfl
structure EmW (c:EmC):Prop where
 ok:InOk c.i
 dv:∀ d∈dsD c.tds,DdI d∧d.sb.size≤1000∧d.dr.size≤1000 ∧ -9223372036854775808≤d.nb∧d.nb≤9223372036854775807∧∀ a∈d.ats,a.val.size≤1000000
 wf:WfT (dsD c.tds)
 ix1 : -9223372036854775808≤c.ix
 ix2:c.ix≤9223372036854775807
 dev:c.dev.d∈dsD c.tds
 org:c.org.size≤1000000
 pnt:c.pnt.size≤1000000
 hl:c.hs.l.length≤1000
 hc:∀ y∈c.hs.l,y.cmd.size≤1000000
 act:c.act.size≤1000000
 pl:c.r.props.l.length≤1000
 pz:∀ y∈c.r.props.l,y.name.size≤1000000
theorem EmW.z {c:EmC} (h:EmW c) (x:Em) (k:Nat) (hg:GdD x.e.dr k) (hk:k≤100000) (ha:x.e.ab∈dsD c.tds):EmZ c x k:=⟨hg,hk,h.ok,h.dv,h.wf,h.ix1,h.ix2,h.dev,ha,h.org,h.pnt,h.hl,h.hc,h.act,h.pl,h.pz⟩
theorem EvO.lowc {w:World} {g:Nat} {c:EmC} {x:Em} (h:EvO w g c x):∀ a∈c.as,∀ p,a=some p→p.block<w.heap.size:=fun a ha p e=>by
 subst e
 rcases List.mem_append.1 ha with h1 | h1
 · simp only [List.mem_cons,List.not_mem_nil,or_false] at h1
   rcases h1 with h1 | h1 | h1 | h1 | h1 | h1 | h1 | h1
   · exact (h.inp.tr.row.pl p h1.symm).2
   · exact (h.inp.rc.pr.row.pl p h1.symm).2
   · exact (h.inp.rc.tg.row.pl p h1.symm).2
   · exact (h.inp.rc.lk.row.pl p h1.symm).2
   · exact (h.inp.rc.rn.row.pl p h1.symm).2
   · exact (h.inp.rc.ld.row.pl p h1.symm).2
   · exact (h.inp.hp.row.pl p h1.symm).2
   · exact (h.dev.pl p h1.symm).2
 · obtain ⟨d,hd,h2⟩:=List.mem_map.1 h1
   exact ((h.inp.tr.inn d hd).pl p h2).2
theorem EvO.lowx {w:World} {g:Nat} {c:EmC} {x:Em} (h:EvO w g c x):∀ a∈x.as,∀ p,a=some p→p.block<w.heap.size:=fun a ha p e=>by
 subst e
 rcases List.mem_append.1 ha with h1 | h1
 · simp only [Dm.as,List.mem_cons,List.not_mem_nil,or_false] at h1
   rcases h1 with h1 | h1 | h1 | h1 | h1 | h1
   · exact (h.dr.pr.row.pl p h1.symm).2
   · exact (h.dr.tg.row.pl p h1.symm).2
   · exact (h.dr.lk.row.pl p h1.symm).2
   · exact (h.dr.rn.row.pl p h1.symm).2
   · exact (h.dr.ld.row.pl p h1.symm).2
   · exact (h.dr.cl.row.pl p h1.symm).2
 · exact (h.ab.pl p (List.mem_singleton.1 h1).symm).2
theorem EvO.away {w w':World} {g:Nat} {c:EmC} {x:Em} {row:Option Nat} (h:EvO w g c x) (hg:w.grownBy w' row) (hb:∀ b,row=some b→b≠g∧OffG b c.as∧OffG b x.as):EvO w' g c x:=by
 cases row with
 | none=>exact h.keep (grown_none hg)
 | some b =>
   obtain ⟨h1,h2,h3⟩:=hb b rfl
   have h4:=(EmC.mem h2).1
   exact ⟨(hg.block g (blk_lt' h.box) (fun e=>h1 (Option.some.inj e).symm)).trans h.box,h.inp.grown hg h2,h.dev.grown hg (offN h4 (by simp)),h.dr.grown hg (fun a ha=>h3 a (List.mem_append_left _ ha)),h.ab.grown hg (offN h3 (List.mem_append_right _ (by simp))),h.offc,h.offx⟩
structure FrC (c:EmC) (w:World) (x y:Em):Prop where
 d:∀ a∈y.dr.as,∀ p,a=some p→w.heap.size≤p.block∨a∈x.dr.as
 a:∀ a∈y.as,∀ p,a=some p→w.heap.size≤p.block∨a∈x.as∨a∈c.as
theorem Fr.c {c:EmC} {w:World} {x y:Em} (h:Fr w x y):FrC c w x y:=⟨h.d,fun a ha p e=>(h.a a ha p e).imp id Or.inl⟩
theorem FrC.trans {c:EmC} {w w0:World} {x y z:Em} (h1:FrC c w x y) (h2:FrC c w0 y z) (hs:w.heap.size≤w0.heap.size):FrC c w x z:=⟨fun a ha p e=>by
 rcases h2.d a ha p e with h | h
 · exact Or.inl (Nat.le_trans hs h)
 · exact h1.d a h p e,fun a ha p e=>by
 rcases h2.a a ha p e with h | h | h
 · exact Or.inl (Nat.le_trans hs h)
 · exact h1.a a h p e
 · exact Or.inr (Or.inr h)⟩
def EvR (w:World) (g:Nat) (c:EmC) (x:Em) (y:Ev) (v:Value) (e:Ending) (w':World):Prop:=∃ x',e=.returned v∧x'.e=y∧EvO w' g c x'∧w.grownBy w' (some g)∧FrC c w x x'
theorem readE_no {c:Cst} {x:Ev} {l:List Tm} {z:Ev} (h:matchE c l l { x with ab:=c.dev,re:=false }=(z,false)):readE c x l=(z,false):=by
 unfold readE
 rw [h];rfl
theorem readE_yes {c:Cst} {x:Ev} {l:List Tm} {z:Ev} (h:matchE c l l { x with ab:=c.dev,re:=false }=(z,true)):readE c x l=((chgK l l.length).foldl (asgE c) z,true):=by
 unfold readE chgK
 rw [h,List.take_length];rfl
end
end Go.Proofs.YtobcmlmbblgcdaaGreatDoor

/-
  The program's table of what terms look at, and whether a term depends on the device alone.
  Contracts of the program's of and Static: what a term looks at.
  Contract of the program's Device of a term. (Printed by gen_pdev.py.)
-/
import Derived.Test.YtobcmlmbblgcdaaGreatDoorG05
import Derived.Test.YtobcmlmbblgcdaaGreatDoorG00
import Derived.Laws.EntriesVeiled
import Derived.Deep.RegionHeld3
import Derived.Test.YtobcmlmbblgcdaaGreatDoorG15
namespace Go.Proofs.YtobcmlmbblgcdaaGreatDoor
set_option maxRecDepth 100000
section
open Go.RowKit
abbrev lkF (k:Int):Value:=if k=2∨k=8 then .func (.func 182) #[] #[] else if k=3∨k=9 then .func (.func 183) #[] #[] else if k=4∨k=10 then .func (.func 184) #[] #[] else if k=5∨k=11 then .func (.func 185) #[] #[] else .nilFunc
def lkA (k:Int):Array Value:=#[.bool (k == 2 || k == 3 || k == 4 || k == 5),.bool (k == 8 || k == 9 || k == 10 || k == 11),lkF k]
def looksA:Array Value:=#[.bool false,.bool false,.nilFunc,.bool false,.bool false,.nilFunc,
 .bool true,.bool false,.func (.func 182) #[] #[],.bool true,.bool false,.func (.func 183) #[] #[],.bool true,.bool false,.func (.func 184) #[] #[],.bool true,.bool false,.func (.func 185) #[] #[],
 .bool false,.bool false,.nilFunc,.bool false,.bool false,.nilFunc,
 .bool false,.bool true,.func (.func 182) #[] #[],.bool false,.bool true,.func (.func 183) #[] #[],.bool false,.bool true,.func (.func 184) #[] #[],.bool false,.bool true,.func (.func 185) #[] #[],
 .bool false,.bool false,.nilFunc,.bool false,.bool false,.nilFunc,.bool false,.bool false,.nilFunc,.bool false,.bool false,.nilFunc,.bool false,.bool false,.nilFunc,.bool false,.bool false,.nilFunc,.bool false,.bool false,.nilFunc,.bool false,.bool false,.nilFunc,.bool false,.bool false,.nilFunc,.bool false,.bool false,.nilFunc,.bool false,.bool false,.nilFunc,.bool false,.bool false,.nilFunc,.bool false,.bool false,.nilFunc]
theorem size_looks:looksA.size=75:=rfl
theorem looks_one:looksA.all (·.oneCell')=true:=by kernel_rfl
theorem looksSize:(Tryz.prog.info? 217).map (·.size)=some 75:=by kernel_rfl
theorem lookSize:(Tryz.prog.info? 196).map (·.size)=some 3:=by kernel_rfl
theorem zeroLooks:Tryz.zeroCells217.size=75:=by kernel_rfl
theorem built_looks:Tryz.prog.built 217 [(2,.agg #[.bool true,.bool false,.func (.func 182) #[] #[]]),(3,.agg #[.bool true,.bool false,.func (.func 183) #[] #[]]),(4,.agg #[.bool true,.bool false,.func (.func 184) #[] #[]]),(5,.agg #[.bool true,.bool false,.func (.func 185) #[] #[]]),(8,.agg #[.bool false,.bool true,.func (.func 182) #[] #[]]),(9,.agg #[.bool false,.bool true,.func (.func 183) #[] #[]]),(10,.agg #[.bool false,.bool true,.func (.func 184) #[] #[]]),(11,.agg #[.bool false,.bool true,.func (.func 185) #[] #[]])]=some looksA:=by
 kernel_rfl
noncomputable def bdLooks (parts:Array (Nat × Value)):Sem Value:=Instr.build 217 parts
theorem bd_looks (parts:Array (Nat × Value)):Instr.build 217 parts=bdLooks parts:=rfl
theorem bdLooks_at (w:World):(bdLooks #[(2,.agg #[.bool true,.bool false,.func (.func 182) #[] #[]]),(3,.agg #[.bool true,.bool false,.func (.func 183) #[] #[]]),(4,.agg #[.bool true,.bool false,.func (.func 184) #[] #[]]),(5,.agg #[.bool true,.bool false,.func (.func 185) #[] #[]]),(8,.agg #[.bool false,.bool true,.func (.func 182) #[] #[]]),(9,.agg #[.bool false,.bool true,.func (.func 183) #[] #[]]),(10,.agg #[.bool false,.bool true,.func (.func 184) #[] #[]]),(11,.agg #[.bool false,.bool true,.func (.func 185) #[] #[]])]).run Tryz.prog w=.ok (.agg looksA) w:=by
 unfold bdLooks
 exact run_build w _ _ _ built_looks
attribute [irreducible] bdLooks
noncomputable def stLooks (v u:Value):Sem Unit:=Instr.storeAt 217 v u
theorem st_looks (v u:Value):Instr.storeAt 217 v u=stLooks v u:=rfl
theorem stLooks_at {w:World} {g:Nat} {old cs:Array Value} {t:TypeId} (h:w.heap[g]? = some (.cells old t (0,0))) (ho:old.size=75) (hs:cs.size=75) (h1:cs.all (·.oneCell')=true):(stLooks (.pointer (some ⟨g,0,none⟩)) (.agg cs)).run Tryz.prog w=.ok () (w.setRow g cs):=by
 unfold stLooks
 simp only [Instr.storeAt,Instr.sureAddr,Sem.run_bind,Sem.run_pure,Result.andThen_ok]
 exact run_storeVar_row w g t 217 old cs h (by rw [hs];exact looksSize) (by rw [ho,hs]) h1
attribute [irreducible] stLooks looksA
attribute [local go_sem ↓] bd_looks st_looks
set_option maxHeartbeats 4000000 in
theorem PLooks_any (w:World):Calls Tryz.prog 153 #[] w fun e w'=>e=.returned (.agg looksA)∧Below w.heap.size w w':=by
 have hbd:=bdLooks_at
 have hst:=stLooks_at (w:=w.alloc (.cells Tryz.zeroCells217 217)) (cs:=looksA) (heap_alloc_new w _) zeroLooks size_looks looks_one
 go_enter Tryz.func153,Tryz.ntmps153
 go_wp2
 refine post_cellrow rfl (by rfl) (heap_alloc_new w _) Tryz.underlying217 rfl (by rw [size_looks];exact looksSize) (by rfl) ?_
 exact ⟨rfl,(below_alloc w _).grown (grown_setRow _ _ _) (by simp) (fun j e=>by cases e;exact Nat.le_refl _)⟩
end
section
open Go.RowKit
abbrev lookZ:Array Value:=#[.bool false,.bool false,.nilFunc]
def ofA (t:Tm):Array Value:=if matchB t.op then lkA t.key else lookZ
theorem lookZ_one:lookZ.all (·.oneCell')=true:=by kernel_rfl
theorem lkA_one (k:Int):(lkA k).all (·.oneCell')=true:=by
 have hf:(lkF k).oneCell'=true:=by
  unfold lkF
  repeat (split;· rfl)
  rfl
 rw [Array.all_eq_true_iff_forall_mem]
 intro u hu
 simp only [lkA,List.mem_toArray,List.mem_cons,List.not_mem_nil,or_false] at hu
 rcases hu with rfl | rfl | rfl
 · rfl
 · rfl
 · exact hf
theorem lkA_out {k:Int} (h:k<0∨24<k):lkA k=lookZ:=by
 unfold lkA lkF lookZ
 rw [if_neg (by omega),if_neg (by omega),if_neg (by omega),if_neg (by omega)]
 have e:∀ n:Int,0≤n→n≤24→(k == n)=false:=fun n h1 h2=>by simp;omega
 rw [e 2 (by omega) (by omega),e 3 (by omega) (by omega),e 4 (by omega) (by omega),e 5 (by omega) (by omega),e 8 (by omega) (by omega),e 9 (by omega) (by omega),e 10 (by omega) (by omega),e 11 (by omega) (by omega)]
 rfl
def lkRow (k:Int):Array Value:=looksA.extract (3*k.toNat) (3*k.toNat+3)
theorem lkRows:(List.range 25).map (fun n:Nat=>lkRow n)=(List.range 25).map (fun n:Nat=>lkA n):=by kernel_rfl
theorem lkRow_is {k:Int} (h1:0≤k) (h2:k≤24):lkRow k=lkA k:=by
 obtain ⟨n,rfl⟩:=Int.eq_ofNat_of_zero_le h1
 exact List.map_inj_left.1 lkRows n (List.mem_range.2 (by omega))
theorem ixLooks_at {k:Int} (h1:0≤k) (h2:k≤24) (W:World):(Instr.index 217 (.agg looksA) (.int .i64 k)).run Tryz.prog W=.ok (.agg (lkA k)) W:=by
 have hb:0≤k∧k<25:=⟨by omega,by omega⟩
 rw [←lkRow_is h1 h2]
 simp [Instr.index,asIntOf,run_underlying Tryz.underlying217,hb,part,Tryz.isAgg196,Tryz.sizeOf196,lkRow,Nat.mul_comm]
noncomputable def stLook (v u:Value):Sem Unit:=Instr.storeAt 196 v u
theorem st_look (v u:Value):Instr.storeAt 196 v u=stLook v u:=rfl
theorem stLook_at {w:World} {g:Nat} {old cs:Array Value} {t:TypeId} (h:w.heap[g]? = some (.cells old t (0,0))) (ho:old.size=3) (hs:cs.size=3) (h1:cs.all (·.oneCell')=true):(stLook (.pointer (some ⟨g,0,none⟩)) (.agg cs)).run Tryz.prog w=.ok () (w.setRow g cs):=by
 unfold stLook
 simp only [Instr.storeAt,Instr.sureAddr,Sem.run_bind,Sem.run_pure,Result.andThen_ok]
 exact run_storeVar_row w g t 196 old cs h (by rw [hs];exact lookSize) (by rw [ho,hs]) h1
attribute [irreducible] stLook
theorem lkBDr {w W:World} (h:Below w.heap.size w W):Below w.heap.size w W.drew:=h.drew
theorem lkBR {w W:World} {g:Nat} {cs:Array Value} (h:Below w.heap.size w W) (hg:w.heap.size≤g):Below w.heap.size w (W.setRow g cs):=h.grown (grown_setRow _ _ _) h.size (fun j e=>by cases e;exact hg)
attribute [local go_sem ↓] st_look
set_option maxHeartbeats 4000000 in
theorem POf_any (t:Tm) (w:World):Calls Tryz.prog 130 #[tmV t] w fun e w'=>e=.returned (.agg (ofA t))∧Below w.heap.size w w':=by
 obtain ⟨w1,hw1⟩:∃ w1,(w.alloc (.cells #[.int .i64 t.key,.string t.name,.int .i64 t.op,.string t.value] 46)).alloc (.cells lookZ 196)=w1:=⟨_,rfl⟩
 have hW1:w1.heap[w.heap.size]? = some (.cells #[.int .i64 t.key,.string t.name,.int .i64 t.op,.string t.value] 46 (0,0)):=by rw [←hw1,heap_alloc_old _ _ (by simp)];exact heap_alloc_new _ _
 have hW2:w1.heap[w.heap.size+1]? = some (.cells lookZ 196 (0,0)):=by rw [←hw1];have:=heap_alloc_new (w.alloc (.cells #[.int .i64 t.key,.string t.name,.int .i64 t.op,.string t.value] 46)) (.cells lookZ 196);simpa using this
 have hB1:Below w.heap.size w w1:=by rw [←hw1];exact bt (below_alloc _ _) (below_alloc _ _)
 have hM:=PMatch_any t w1
 have HEnd:Hid (∀ W cs,Below w1.heap.size w1 W→Below w.heap.size w (W.setRow (w.heap.size+1) cs)):=Lib.hid fun W cs h=>lkBR (bt hB1 h) (by omega)
 have HB1:=Lib.hid hB1
 have HM:=Lib.hid hM
 have HW1:=Lib.hid hW1
 have HW2:=Lib.hid hW2
 have HOf:Hid (ofA t=if matchB t.op then lkA t.key else lookZ):=Lib.hid rfl
 obtain ⟨⟨c0,c1,c2,c3⟩,_⟩:=res4 hW1
 clear hB1 hM hW1 hW2
 have HSx:Hid (∀ W,Below w1.heap.size w1 W→W.cell? ⟨w.heap.size,0,none⟩=some (.int .i64 t.key)∧W.cell? ⟨w.heap.size,1,none⟩=some (.string t.name)∧W.cell? ⟨w.heap.size,2,none⟩=some (.int .i64 t.op)∧W.cell? ⟨w.heap.size,3,none⟩=some (.string t.value)):=Lib.hid fun W hW=>(res4 ((hW.block _ (blk_lt' HW1.out)).trans HW1.out)).1
 have HSz:w1.heap.size=w.heap.size+2:=by rw [←hw1];simp
 unfold tmV at HM ⊢
 cases hm:matchB t.op with
 | false =>
   rw [hm] at HM HOf
   clear hm
   go_enter Tryz.func130,Tryz.ntmps130
   go_upto_region 1 with fail
   try rw [hw1]
   go_wp2_with (go_at_call 105;refine HM.out.mono ?_;rintro e w2 ⟨rfl,hb2⟩;have hz2:=(hb2.block _ (blk_lt' HW2.out)).trans HW2.out;have hst:=stLook_at (cs:=lookZ) hz2 rfl rfl lookZ_one;have HB2:=Lib.hid hb2;have HZ2:=Lib.hid hz2;clear hb2 hz2;obtain ⟨d0,d1,d2,d3⟩:=HSx.out w2 HB2.out)
   refine post_cellrow rfl (by rfl) HZ2.out Tryz.underlying196 rfl (by exact lookSize) (by rfl) ?_
   exact ⟨by rw [HOf.out];rfl,HEnd.out _ _ HB2.out⟩
 | true =>
   rw [hm] at HM HOf
   clear hm
   by_cases hk:t.key<0∨24<t.key
   · have HE:Hid (ofA t=lookZ):=Lib.hid (by rw [HOf.out,if_pos rfl,lkA_out hk])
     rcases hk with hk | hk
     · go_enter Tryz.func130,Tryz.ntmps130
       go_upto_region 1 with fail
       go_wp2_with (go_at_call 105;refine HM.out.mono ?_;rintro e w2 ⟨rfl,hb2⟩;have hz2:=(hb2.block _ (blk_lt' HW2.out)).trans HW2.out;have hst:=stLook_at (cs:=lookZ) hz2 rfl rfl lookZ_one;have HB2:=Lib.hid hb2;have HZ2:=Lib.hid hz2;clear hb2 hz2;obtain ⟨d0,d1,d2,d3⟩:=HSx.out w2 HB2.out)
       refine post_cellrow rfl (by rfl) HZ2.out Tryz.underlying196 rfl (by exact lookSize) (by rfl) ?_
       exact ⟨by rw [HE.out],HEnd.out _ _ HB2.out⟩
     · have hk0:¬ t.key<0:=by omega
       go_enter Tryz.func130,Tryz.ntmps130
       go_upto_region 1 with fail
       go_wp2_with (go_at_call 105;refine HM.out.mono ?_;rintro e w2 ⟨rfl,hb2⟩;have hz2:=(hb2.block _ (blk_lt' HW2.out)).trans HW2.out;have hst:=stLook_at (cs:=lookZ) hz2 rfl rfl lookZ_one;have HB2:=Lib.hid hb2;have HZ2:=Lib.hid hz2;clear hb2 hz2;obtain ⟨d0,d1,d2,d3⟩:=HSx.out w2 HB2.out)
       refine post_cellrow rfl (by rfl) HZ2.out Tryz.underlying196 rfl (by exact lookSize) (by rfl) ?_
       exact ⟨by rw [HE.out],HEnd.out _ _ HB2.out⟩
   · have h1:¬ t.key<0:=by omega
     have h2:¬ 24<t.key:=by omega
     have hix:=fun W=>ixLooks_at (k:=t.key) (by omega) (by omega) W
     have HE:Hid (ofA t=lkA t.key):=Lib.hid (by rw [HOf.out,if_pos rfl])
     clear hk
     go_enter Tryz.func130,Tryz.ntmps130
     go_upto_region 1 with fail
     go_wp2_with (go_at_call 105;refine HM.out.mono ?_;rintro e w2 ⟨rfl,hb2⟩;have hz2:=(hb2.block _ (blk_lt' HW2.out)).trans HW2.out;have hst:=stLook_at (cs:=lookZ) hz2 rfl rfl lookZ_one;have HB2:=Lib.hid hb2;have HZ2:=Lib.hid hz2;clear hb2 hz2;obtain ⟨d0,d1,d2,d3⟩:=HSx.out w2 HB2.out)
     have HSy:Hid (∀ W,Below w2.heap.size w2 W→W.cell? ⟨w.heap.size,0,none⟩=some (.int .i64 t.key)∧∀ cs,(W.setRow (w.heap.size+1) cs).cell? ⟨w.heap.size,0,none⟩=some (.int .i64 t.key)):=Lib.hid fun W hW=>⟨(HSx.out W (bt HB2.out hW)).1,fun cs=>by
      have h3:=(HSx.out W (bt HB2.out hW)).1
      rw [World.cell?_of_block (w:=W) (setRow_other W (w.heap.size+1) w.heap.size cs (by omega))]
      exact h3⟩
     clear hst
     go_region_held3 (fun W'=>W'.cell? ⟨w.heap.size,0,none⟩=some (.int .i64 t.key)) ((first | exact (HSy.out _ (by first | exact lkBDr (Below.refl _ _) | exact hB3)).1 | exact (HSy.out _ hB3).2 _)) ((go_at_call 153;refine (PLooks_any _).mono ?_;rintro e w3 ⟨rfl,hb3⟩;(have hB3:Below w2.heap.size w2 w3:=bt (lkBDr (Below.refl _ _)) hb3);have hz3:=(hB3.block _ (blk_lt' HZ2.out)).trans HZ2.out;have hst3:=stLook_at (cs:=lkA t.key) hz3 rfl rfl (lkA_one _)))
     all_goals
      go_wp2
      refine post_cellrow rfl (by rfl) hz3 Tryz.underlying196 rfl (by exact lookSize) (by rfl) ?_
      exact ⟨by rw [HE.out],HEnd.out _ _ (bt HB2.out hB3)⟩
def fnOf (t:Tm):Value:=if matchB t.op then lkF t.key else .nilFunc
theorem ofA_is (t:Tm):ofA t=#[.bool (staticB t),.bool (upB t),fnOf t]:=by
 unfold ofA staticB upB fnOf
 cases matchB t.op <;> rfl
theorem field_look (b u:Bool) (f:Value) (w:World):(Instr.field 196 (.agg #[.bool b,.bool u,f]) 0).run Tryz.prog w=.ok (.bool b) w:=by kernel_rfl
set_option maxHeartbeats 1000000 in
theorem PStatic_any (t:Tm) (w:World):Calls Tryz.prog 106 #[tmV t] w fun e w'=>e=.returned (.bool (staticB t))∧Below w.heap.size w w':=by
 have hO:=POf_any t (w.alloc (.cells #[.int .i64 t.key,.string t.name,.int .i64 t.op,.string t.value] 46))
 rw [ofA_is] at hO
 have HO:=Lib.hid hO
 clear hO
 unfold tmV at HO ⊢
 generalize staticB t=b at *
 generalize upB t=u at *
 generalize fnOf t=f at *
 have hfl:=field_look b u f
 go_enter Tryz.func106,Tryz.ntmps106
 go_wp2_with (go_at_call 130;refine HO.out.mono ?_;rintro e w2 ⟨rfl,hb2⟩;have HB2:=Lib.hid hb2;clear hb2)
 go_ret
 exact ⟨rfl,bt (below_alloc _ _) HB2.out⟩
end
section
open Go.RowKit
theorem neqNilL (w:World):(binOp .neq 194 .nilFunc .nilFunc).run Tryz.prog w=.ok (.bool false) w:=by kernel_rfl
theorem neqFnL (n:Nat) (w:World):(binOp .neq 194 (.func (.func n) #[] #[]) .nilFunc).run Tryz.prog w=.ok (.bool true) w:=by kernel_rfl
set_option maxHeartbeats 2000000 in
theorem PHolds_any (t:Tm) (v:ByteArray) (w:World) (hp:t.value.size≤4611686018427387904) (hv:v.size≤4611686018427387904):Calls Tryz.prog 131 #[tmV t,.string v] w fun e w'=>e=.returned (.bool (holdsB t v))∧Below w.heap.size w w':=by
 have HM:=Lib.hid (fun W=>PGMatch_any t.value v W hp hv)
 have HR:Hid (holdsB t v=(globM (L t.value) (L v) == (t.op == 1))):=Lib.hid rfl
 unfold tmV
 generalize globM (L t.value) (L v)=b at *
 obtain ⟨w1,hw1⟩:∃ w1,(w.alloc (.cells #[.int .i64 t.key,.string t.name,.int .i64 t.op,.string t.value] 46))=w1:=⟨_,rfl⟩
 have HSx:Hid (∀ W,Below w1.heap.size w1 W→W.cell? ⟨w.heap.size,2,none⟩=some (.int .i64 t.op)∧W.cell? ⟨w.heap.size,3,none⟩=some (.string t.value)):=Lib.hid fun W hW=>by
  rw [←hw1] at hW
  obtain ⟨_,_,c2,c3⟩:=box4 hW
  exact ⟨c2,c3⟩
 have HB1:Hid (Below w.heap.size w w1):=Lib.hid (by rw [←hw1];exact below_alloc _ _)
 have HW1:=Lib.hid hw1
 clear hw1
 go_enter Tryz.func131,Tryz.ntmps131
 go_upto_region 1 with fail
 rw [HW1.out]
 obtain ⟨c2,c3⟩:=HSx.out w1 (Below.refl _ _)
 go_region_held3 (fun W'=>W'.cell? ⟨w.heap.size,2,none⟩=some (.int .i64 t.op)∧W'.cell? ⟨w.heap.size,3,none⟩=some (.string t.value)) ((refine HSx.out _ ?_;first | exact rdBDr (Below.refl _ _) | exact hB2)) ((go_at_call 142;refine (HM.out _).mono ?_;rintro e w2 ⟨rfl,hb2⟩;(have hB2:Below w1.heap.size w1 w2:=bt (rdBDr (Below.refl _ _)) hb2)))
 all_goals
  go_wp2
  go_ret
  exact ⟨ret_bool (by rw [HR.out]),bt HB1.out hB2⟩
set_option maxHeartbeats 1000000 in
theorem LkF1_any (t:Tm) (d:Dv) (w:World):Calls Tryz.prog 182 #[tmV t,dvV d] w fun e w'=>e=.returned (.string d.og)∧Below w.heap.size w w':=by
 unfold tmV dvV
 go_enter Tryz.func182,Tryz.ntmps182
 go_wp2
 go_ret
 exact ⟨rfl,bt (below_alloc _ _) (below_alloc _ _)⟩
set_option maxHeartbeats 1000000 in
theorem LkF2_any (t:Tm) (d:Dv) (w:World):Calls Tryz.prog 183 #[tmV t,dvV d] w fun e w'=>e=.returned (.string d.sb)∧Below w.heap.size w w':=by
 unfold tmV dvV
 go_enter Tryz.func183,Tryz.ntmps183
 go_wp2
 go_ret
 exact ⟨rfl,bt (below_alloc _ _) (below_alloc _ _)⟩
set_option maxHeartbeats 1000000 in
theorem LkF3_any (t:Tm) (d:Dv) (w:World):Calls Tryz.prog 184 #[tmV t,dvV d] w fun e w'=>e=.returned (.string d.dr)∧Below w.heap.size w w':=by
 unfold tmV dvV
 go_enter Tryz.func184,Tryz.ntmps184
 go_wp2
 go_ret
 exact ⟨rfl,bt (below_alloc _ _) (below_alloc _ _)⟩
set_option maxHeartbeats 1000000 in
theorem LkF4_any (t:Tm) (d:Dv) (w:World) (hd:DvOk d) (h:DvAt w w.heap.size d):Calls Tryz.prog 185 #[tmV t,dvV d] w fun e w'=>e=.returned (.string (attrS d.ats.l (L t.name)))∧Below w.heap.size w w':=by
 have hgv:=getU_is d.ats.l (L t.name)
 have HGe:Hid (∀ W,Below w.heap.size w W→Calls Tryz.prog 27 #[.slice d.ats.A d.ats.l.length d.ats.c,.string t.name] W (GetPost (findF d.ats.l (L t.name)) W)):=Lib.hid fun W hW=>PGet_any d.ats.A d.ats.c d.ats.l t.name W ((h.keep hW).up hW.size) hd.len
 unfold GetPost at HGe
 rw [hgv] at HGe
 clear hgv hd h
 generalize attrS d.ats.l (L t.name)=av at *
 generalize (findF d.ats.l (L t.name)).isSome=ab at *
 unfold tmV dvV
 go_enter Tryz.func185,Tryz.ntmps185
 go_wp2_with (go_at_call 27;refine (HGe.out _ (bt (below_alloc _ _) (below_alloc _ _))).mono ?_;rintro e w4 ⟨rfl,hb4⟩;have HB4:=Lib.hid hb4;clear hb4)
 go_ret
 exact ⟨rfl,bt (bt (below_alloc _ _) (below_alloc _ _)) HB4.out⟩
theorem fnOf_no {t:Tm} (h:staticB t=false) (h2:upB t=false):fnOf t=.nilFunc:=by
 unfold staticB at h
 unfold upB at h2
 unfold fnOf
 cases hm:matchB t.op with
 | false=>rfl
 | true =>
   rw [hm] at h h2
   simp only [Bool.true_and,Bool.or_eq_false_iff,beq_eq_false_iff_ne] at h h2
   rw [if_pos rfl,lkF,if_neg (by omega),if_neg (by omega),if_neg (by omega),if_neg (by omega)]
theorem fnOf_at {t:Tm} (hm:matchB t.op=true) {v:Value} (h:lkF t.key=v):fnOf t=v:=by unfold fnOf;rw [hm,if_pos rfl,h]
theorem look_one (b u:Bool) {f:Value} (h:f.oneCell'=true):(#[.bool b,.bool u,f]:Array Value).all (·.oneCell')=true:=by
 rw [Array.all_eq_true_iff_forall_mem]
 intro x hx
 simp only [List.mem_toArray,List.mem_cons,List.not_mem_nil,or_false] at hx
 rcases hx with rfl | rfl | rfl
 · rfl
 · rfl
 · exact h
theorem fn_one (t:Tm):(fnOf t).oneCell'=true:=by
 unfold fnOf lkF
 repeat (split;· rfl)
 split
 · repeat (split;· rfl)
   rfl
 · rfl
attribute [local go_sem ↓] st_look
set_option maxHeartbeats 8000000 in
theorem PDevice_any (t:Tm) (d:Dv) (w:World) (hp:t.value.size≤4611686018427387904) (hd:DvOk d) (h:DvAt w w.heap.size d) :
 Calls Tryz.prog 107 #[tmV t,dvV d] w fun e w'=>e=.returned (.bool (devB t d))∧Below w.heap.size w w':=by
 obtain ⟨ky,nmm,op,vl⟩:=t
 dsimp only at hp
 have hO:=fun W=>POf_any (⟨ky,nmm,op,vl⟩:Tm) W
 rw [ofA_is] at hO
 have HO:=Lib.hid hO
 have HHo:=Lib.hid (fun v (hv:v.size≤4611686018427387904) W=>PHolds_any (⟨ky,nmm,op,vl⟩:Tm) v W hp hv)
 have HF1:=Lib.hid (fun W=>LkF1_any (⟨ky,nmm,op,vl⟩:Tm) d W)
 have HF2:=Lib.hid (fun W=>LkF2_any (⟨ky,nmm,op,vl⟩:Tm) d W)
 have HF3:=Lib.hid (fun W=>LkF3_any (⟨ky,nmm,op,vl⟩:Tm) d W)
 have HF4:Hid (∀ W,Below w.heap.size w W→Calls Tryz.prog 185 #[tmV (⟨ky,nmm,op,vl⟩:Tm),dvV d] W fun e w'=>e=.returned (.string (attrS d.ats.l (L nmm)))∧Below W.heap.size W w'):=Lib.hid fun W hW=>LkF4_any (⟨ky,nmm,op,vl⟩:Tm) d W hd ((h.keep hW).up hW.size)
 have HD:=Lib.hid hd
 have HOa:=Lib.hid (attrS_size hd.ats (L nmm))
 have h1c:=fn_one (⟨ky,nmm,op,vl⟩:Tm)
 clear hO hd h hp
 obtain ⟨w1,hw1⟩:∃ w1,(w.alloc (.cells #[.int .i64 ky,.string nmm,.int .i64 op,.string vl] 46)).alloc (.cells #[.int .i64 d.ix,.int .i64 d.pa,.string d.nam,.string d.og,.string d.sb,.string d.dr,.string d.al,.int .i64 d.kd,.int .i64 d.nb,.slice d.ats.A d.ats.l.length d.ats.c] 67)=w1:=⟨_,rfl⟩
 have hT:w1.heap[w.heap.size]? = some (.cells #[.int .i64 ky,.string nmm,.int .i64 op,.string vl] 46):=by rw [←hw1,heap_alloc_old _ _ (by simp)];exact heap_alloc_new _ _
 have hD:w1.heap[w.heap.size+1]? = some (.cells #[.int .i64 d.ix,.int .i64 d.pa,.string d.nam,.string d.og,.string d.sb,.string d.dr,.string d.al,.int .i64 d.kd,.int .i64 d.nb,.slice d.ats.A d.ats.l.length d.ats.c] 67):=by rw [←hw1];have:=heap_alloc_new (w.alloc (.cells #[.int .i64 ky,.string nmm,.int .i64 op,.string vl] 46)) (.cells #[.int .i64 d.ix,.int .i64 d.pa,.string d.nam,.string d.og,.string d.sb,.string d.dr,.string d.al,.int .i64 d.kd,.int .i64 d.nb,.slice d.ats.A d.ats.l.length d.ats.c] 67);simpa using this
 have HSx:Hid (∀ W,Below w1.heap.size w1 W→W.cell? ⟨w.heap.size,0,none⟩=some (.int .i64 ky)∧W.cell? ⟨w.heap.size,1,none⟩=some (.string nmm)∧W.cell? ⟨w.heap.size,2,none⟩=some (.int .i64 op)∧W.cell? ⟨w.heap.size,3,none⟩=some (.string vl)∧W.cell? ⟨w.heap.size+1,0,none⟩=some (.int .i64 d.ix)∧W.cell? ⟨w.heap.size+1,1,none⟩=some (.int .i64 d.pa)∧W.cell? ⟨w.heap.size+1,2,none⟩=some (.string d.nam)∧W.cell? ⟨w.heap.size+1,3,none⟩=some (.string d.og)∧W.cell? ⟨w.heap.size+1,4,none⟩=some (.string d.sb)∧W.cell? ⟨w.heap.size+1,5,none⟩=some (.string d.dr)∧W.cell? ⟨w.heap.size+1,6,none⟩=some (.string d.al)∧W.cell? ⟨w.heap.size+1,7,none⟩=some (.int .i64 d.kd)∧W.cell? ⟨w.heap.size+1,8,none⟩=some (.int .i64 d.nb)∧W.cell? ⟨w.heap.size+1,9,none⟩=some (.slice d.ats.A d.ats.l.length d.ats.c)):=Lib.hid fun W hW=>by
  have h1:=(hW.block _ (blk_lt' hT)).trans hT
  have h2:=(hW.block _ (blk_lt' hD)).trans hD
  exact ⟨cellOf h1 rfl,cellOf h1 rfl,cellOf h1 rfl,cellOf h1 rfl,cellOf h2 rfl,cellOf h2 rfl,cellOf h2 rfl,cellOf h2 rfl,cellOf h2 rfl,cellOf h2 rfl,cellOf h2 rfl,cellOf h2 rfl,cellOf h2 rfl,cellOf h2 rfl⟩
 have HB1:Hid (Below w.heap.size w w1):=Lib.hid (by rw [←hw1];exact bt (below_alloc _ _) (below_alloc _ _))
 have HSz:Hid (w1.heap.size=w.heap.size+2):=Lib.hid (by rw [←hw1];simp)
 have HW1:=Lib.hid hw1
 clear hw1 hT hD
 by_cases hno:staticB (⟨ky,nmm,op,vl⟩:Tm)=false∧upB (⟨ky,nmm,op,vl⟩:Tm)=false
 · have HR:=Lib.hid (devB_no (t:=⟨ky,nmm,op,vl⟩) (d:=d) hno.1 hno.2)
   have hfn:=fnOf_no hno.1 hno.2
   rw [hfn] at HO h1c
   have HLo:Hid ((#[.bool (staticB (⟨ky,nmm,op,vl⟩:Tm)),.bool (upB (⟨ky,nmm,op,vl⟩:Tm)),.nilFunc]:Array Value).all (·.oneCell')=true):=Lib.hid (look_one _ _ rfl)
   generalize staticB (⟨ky,nmm,op,vl⟩:Tm)=bs at *
   generalize upB (⟨ky,nmm,op,vl⟩:Tm)=bu at *
   clear hno hfn HHo
   unfold tmV dvV at *
   dsimp only at *
   have hnq:=neqNilL
   go_enter Tryz.func107,Tryz.ntmps107
   go_upto_region 1 with fail
   rw [HW1.out]
   obtain ⟨c0,c1,c2,c3,c4,c5,c6,c7,c8,c9,c10,c11,c12,c13⟩:=HSx.out w1 (Below.refl _ _)
   go_upto_region 2 with (go_at_call 130;refine (HO.out _).mono ?_;rintro e w2 ⟨rfl,hb2⟩;have HB2:=Lib.hid hb2;have hst:=stLook_at (w:=w2.alloc (.cells lookZ 196)) (cs:=#[.bool bs,.bool bu,.nilFunc]) (heap_alloc_new w2 _) rfl rfl HLo.out;clear hb2)
   clear hst
   obtain ⟨w3,hw3⟩:∃ w3,(w2.alloc (.cells lookZ 196)).setRow w2.heap.size #[.bool bs,.bool bu,.nilFunc]=w3:=⟨_,rfl⟩
   have HB3:Hid (Below w2.heap.size w2 w3):=Lib.hid (by rw [←hw3];exact lkBR (below_alloc _ _) (Nat.le_refl _))
   have hf3:w3.heap[w2.heap.size]? = some (.cells #[.bool bs,.bool bu,.nilFunc] 196 (0,0)):=by rw [←hw3];exact setRow_heap _ _ _ _ _ _ (heap_alloc_new w2 _)
   have HSf:Hid (∀ W,Below w3.heap.size w3 W→W.cell? ⟨w2.heap.size,2,none⟩=some (.nilFunc)):=Lib.hid fun W hW=>cellOf ((hW.block _ (blk_lt' hf3)).trans hf3) rfl
   have HBw:Hid (Below w1.heap.size w1 w3):=Lib.hid (bt HB2.out HB3.out)
   rw [hw3]
   have HW3:=Lib.hid hw3
   clear hw3 hf3
   obtain ⟨d0,d1,d2,d3,d4,d5,d6,d7,d8,d9,d10,d11,d12,d13⟩:=HSx.out w3 HBw.out
   have g2:=HSf.out w3 (Below.refl _ _)
   go_quiet (fail)
   go_wp2
   go_ret
   exact ⟨ret_bool (by rw [HR.out]),below_drewN (bt HB1.out HBw.out) _⟩
 have hm:matchB op=true:=by
  cases hm:matchB op with
  | true=>rfl
  | false=>exact absurd ⟨by unfold staticB;rw [hm];rfl,by unfold upB;rw [hm];rfl⟩ hno
 have hk:ky=2∨ky=3∨ky=4∨ky=5∨ky=8∨ky=9∨ky=10∨ky=11:=by
  refine Classical.byContradiction fun h=>hno ⟨?_,?_⟩
  · unfold staticB;rw [hm];simp;omega
  · unfold upB;rw [hm];simp;omega
 have HAt:=Lib.hid (fun v h=>devB_at (t:=⟨ky,nmm,op,vl⟩) (d:=d) hm v h)
 have HFa:=Lib.hid (fun v h=>fnOf_at (t:=⟨ky,nmm,op,vl⟩) hm (v:=v) h)
 clear hno
 have hkk:∃ n v,(n=1∧v=d.og∨n=2∧v=d.sb∨n=3∧v=d.dr∨n=4∧v=attrS d.ats.l (L nmm))∧seenV (⟨ky,nmm,op,vl⟩:Tm) d=some v∧lkF ky=.func (.func (match n with | 1=>182 | 2=>183 | 3=>184 | _=>185)) #[] #[]:=by
  rcases hk with rfl | rfl | rfl | rfl | rfl | rfl | rfl | rfl
  · exact ⟨1,d.og,Or.inl ⟨rfl,rfl⟩,rfl,rfl⟩
  · exact ⟨2,d.sb,Or.inr (Or.inl ⟨rfl,rfl⟩),rfl,rfl⟩
  · exact ⟨3,d.dr,Or.inr (Or.inr (Or.inl ⟨rfl,rfl⟩)),rfl,rfl⟩
  · exact ⟨4,attrS d.ats.l (L nmm),Or.inr (Or.inr (Or.inr ⟨rfl,rfl⟩)),rfl,rfl⟩
  · exact ⟨1,d.og,Or.inl ⟨rfl,rfl⟩,rfl,rfl⟩
  · exact ⟨2,d.sb,Or.inr (Or.inl ⟨rfl,rfl⟩),rfl,rfl⟩
  · exact ⟨3,d.dr,Or.inr (Or.inr (Or.inl ⟨rfl,rfl⟩)),rfl,rfl⟩
  · exact ⟨4,attrS d.ats.l (L nmm),Or.inr (Or.inr (Or.inr ⟨rfl,rfl⟩)),rfl,rfl⟩
 obtain ⟨n,v,hnv,hsv,hlk⟩:=hkk
 have HR:=Lib.hid (HAt.out v hsv)
 have hfn:=HFa.out _ hlk
 rw [hfn] at HO h1c
 clear hm hk HAt HFa hsv hlk hfn
 rcases hnv with ⟨rfl,rfl⟩ | ⟨rfl,rfl⟩ | ⟨rfl,rfl⟩ | ⟨rfl,rfl⟩
 · have HHv:=Lib.hid (HHo.out (d.og) (by exact HD.out.og))
   have HLo:Hid ((#[.bool (staticB (⟨ky,nmm,op,vl⟩:Tm)),.bool (upB (⟨ky,nmm,op,vl⟩:Tm)),.func (.func 182) #[] #[]]:Array Value).all (·.oneCell')=true):=Lib.hid (look_one _ _ rfl)
   generalize staticB (⟨ky,nmm,op,vl⟩:Tm)=bs at *
   generalize upB (⟨ky,nmm,op,vl⟩:Tm)=bu at *
   generalize holdsB (⟨ky,nmm,op,vl⟩:Tm) (d.og)=hb at *
   clear HHo
   try dsimp only at HO
   unfold tmV dvV at *
   dsimp only at *
   have hnq:=neqFnL 182
   go_enter Tryz.func107,Tryz.ntmps107
   go_upto_region 1 with fail
   rw [HW1.out]
   obtain ⟨c0,c1,c2,c3,c4,c5,c6,c7,c8,c9,c10,c11,c12,c13⟩:=HSx.out w1 (Below.refl _ _)
   go_upto_region 2 with (go_at_call 130;refine (HO.out _).mono ?_;rintro e w2 ⟨rfl,hb2⟩;have HB2:=Lib.hid hb2;have hst:=stLook_at (w:=w2.alloc (.cells lookZ 196)) (cs:=#[.bool bs,.bool bu,.func (.func 182) #[] #[]]) (heap_alloc_new w2 _) rfl rfl HLo.out;clear hb2)
   clear hst
   obtain ⟨w3,hw3⟩:∃ w3,(w2.alloc (.cells lookZ 196)).setRow w2.heap.size #[.bool bs,.bool bu,.func (.func 182) #[] #[]]=w3:=⟨_,rfl⟩
   have HB3:Hid (Below w2.heap.size w2 w3):=Lib.hid (by rw [←hw3];exact lkBR (below_alloc _ _) (Nat.le_refl _))
   have hf3:w3.heap[w2.heap.size]? = some (.cells #[.bool bs,.bool bu,.func (.func 182) #[] #[]] 196 (0,0)):=by rw [←hw3];exact setRow_heap _ _ _ _ _ _ (heap_alloc_new w2 _)
   have HSf:Hid (∀ W,Below w3.heap.size w3 W→W.cell? ⟨w2.heap.size,2,none⟩=some (.func (.func 182) #[] #[])):=Lib.hid fun W hW=>cellOf ((hW.block _ (blk_lt' hf3)).trans hf3) rfl
   have HBw:Hid (Below w1.heap.size w1 w3):=Lib.hid (bt HB2.out HB3.out)
   rw [hw3]
   have HW3:=Lib.hid hw3
   clear hw3 hf3
   obtain ⟨d0,d1,d2,d3,d4,d5,d6,d7,d8,d9,d10,d11,d12,d13⟩:=HSx.out w3 HBw.out
   have g2:=HSf.out w3 (Below.refl _ _)
   have HSa:Hid (∀ W,Below w3.heap.size w3 W→W.cell? ⟨w2.heap.size,2,none⟩=some (.func (.func 182) #[] #[])∧(W.cell? ⟨w.heap.size,0,none⟩=some (.int .i64 ky)∧W.cell? ⟨w.heap.size,1,none⟩=some (.string nmm)∧W.cell? ⟨w.heap.size,2,none⟩=some (.int .i64 op)∧W.cell? ⟨w.heap.size,3,none⟩=some (.string vl)∧W.cell? ⟨w.heap.size+1,0,none⟩=some (.int .i64 d.ix)∧W.cell? ⟨w.heap.size+1,1,none⟩=some (.int .i64 d.pa)∧W.cell? ⟨w.heap.size+1,2,none⟩=some (.string d.nam)∧W.cell? ⟨w.heap.size+1,3,none⟩=some (.string d.og)∧W.cell? ⟨w.heap.size+1,4,none⟩=some (.string d.sb)∧W.cell? ⟨w.heap.size+1,5,none⟩=some (.string d.dr)∧W.cell? ⟨w.heap.size+1,6,none⟩=some (.string d.al)∧W.cell? ⟨w.heap.size+1,7,none⟩=some (.int .i64 d.kd)∧W.cell? ⟨w.heap.size+1,8,none⟩=some (.int .i64 d.nb)∧W.cell? ⟨w.heap.size+1,9,none⟩=some (.slice d.ats.A d.ats.l.length d.ats.c))):=Lib.hid fun W hW=>⟨HSf.out W hW,HSx.out W (bt HBw.out hW)⟩
   go_region_held3 (fun W'=>W'.cell? ⟨w2.heap.size,2,none⟩=some (.func (.func 182) #[] #[])∧(W'.cell? ⟨w.heap.size,0,none⟩=some (.int .i64 ky)∧W'.cell? ⟨w.heap.size,1,none⟩=some (.string nmm)∧W'.cell? ⟨w.heap.size,2,none⟩=some (.int .i64 op)∧W'.cell? ⟨w.heap.size,3,none⟩=some (.string vl)∧W'.cell? ⟨w.heap.size+1,0,none⟩=some (.int .i64 d.ix)∧W'.cell? ⟨w.heap.size+1,1,none⟩=some (.int .i64 d.pa)∧W'.cell? ⟨w.heap.size+1,2,none⟩=some (.string d.nam)∧W'.cell? ⟨w.heap.size+1,3,none⟩=some (.string d.og)∧W'.cell? ⟨w.heap.size+1,4,none⟩=some (.string d.sb)∧W'.cell? ⟨w.heap.size+1,5,none⟩=some (.string d.dr)∧W'.cell? ⟨w.heap.size+1,6,none⟩=some (.string d.al)∧W'.cell? ⟨w.heap.size+1,7,none⟩=some (.int .i64 d.kd)∧W'.cell? ⟨w.heap.size+1,8,none⟩=some (.int .i64 d.nb)∧W'.cell? ⟨w.heap.size+1,9,none⟩=some (.slice d.ats.A d.ats.l.length d.ats.c))) ((refine HSa.out _ ?_;first | exact rdBDr (Below.refl _ _) | exact hB5 | exact hB4)) ((first
    | (go_at_call 182;refine (HF1.out _).mono ?_;rintro e w4 ⟨rfl,hb4⟩;(have hB4:Below w3.heap.size w3 w4:=bt (rdBDr (Below.refl _ _)) hb4))
    | (go_at_call 131;refine (HHv.out _).mono ?_;rintro e w5 ⟨rfl,hb5⟩;(have hB5:Below w3.heap.size w3 w5:=bt hB4 hb5))))
   all_goals
    go_wp2
    go_ret
    exact ⟨ret_bool (by rw [HR.out]),bt HB1.out (bt HBw.out hB5)⟩
 · have HHv:=Lib.hid (HHo.out (d.sb) (by exact HD.out.sb))
   have HLo:Hid ((#[.bool (staticB (⟨ky,nmm,op,vl⟩:Tm)),.bool (upB (⟨ky,nmm,op,vl⟩:Tm)),.func (.func 183) #[] #[]]:Array Value).all (·.oneCell')=true):=Lib.hid (look_one _ _ rfl)
   generalize staticB (⟨ky,nmm,op,vl⟩:Tm)=bs at *
   generalize upB (⟨ky,nmm,op,vl⟩:Tm)=bu at *
   generalize holdsB (⟨ky,nmm,op,vl⟩:Tm) (d.sb)=hb at *
   clear HHo
   try dsimp only at HO
   unfold tmV dvV at *
   dsimp only at *
   have hnq:=neqFnL 183
   go_enter Tryz.func107,Tryz.ntmps107
   go_upto_region 1 with fail
   rw [HW1.out]
   obtain ⟨c0,c1,c2,c3,c4,c5,c6,c7,c8,c9,c10,c11,c12,c13⟩:=HSx.out w1 (Below.refl _ _)
   go_upto_region 2 with (go_at_call 130;refine (HO.out _).mono ?_;rintro e w2 ⟨rfl,hb2⟩;have HB2:=Lib.hid hb2;have hst:=stLook_at (w:=w2.alloc (.cells lookZ 196)) (cs:=#[.bool bs,.bool bu,.func (.func 183) #[] #[]]) (heap_alloc_new w2 _) rfl rfl HLo.out;clear hb2)
   clear hst
   obtain ⟨w3,hw3⟩:∃ w3,(w2.alloc (.cells lookZ 196)).setRow w2.heap.size #[.bool bs,.bool bu,.func (.func 183) #[] #[]]=w3:=⟨_,rfl⟩
   have HB3:Hid (Below w2.heap.size w2 w3):=Lib.hid (by rw [←hw3];exact lkBR (below_alloc _ _) (Nat.le_refl _))
   have hf3:w3.heap[w2.heap.size]? = some (.cells #[.bool bs,.bool bu,.func (.func 183) #[] #[]] 196 (0,0)):=by rw [←hw3];exact setRow_heap _ _ _ _ _ _ (heap_alloc_new w2 _)
   have HSf:Hid (∀ W,Below w3.heap.size w3 W→W.cell? ⟨w2.heap.size,2,none⟩=some (.func (.func 183) #[] #[])):=Lib.hid fun W hW=>cellOf ((hW.block _ (blk_lt' hf3)).trans hf3) rfl
   have HBw:Hid (Below w1.heap.size w1 w3):=Lib.hid (bt HB2.out HB3.out)
   rw [hw3]
   have HW3:=Lib.hid hw3
   clear hw3 hf3
   obtain ⟨d0,d1,d2,d3,d4,d5,d6,d7,d8,d9,d10,d11,d12,d13⟩:=HSx.out w3 HBw.out
   have g2:=HSf.out w3 (Below.refl _ _)
   have HSa:Hid (∀ W,Below w3.heap.size w3 W→W.cell? ⟨w2.heap.size,2,none⟩=some (.func (.func 183) #[] #[])∧(W.cell? ⟨w.heap.size,0,none⟩=some (.int .i64 ky)∧W.cell? ⟨w.heap.size,1,none⟩=some (.string nmm)∧W.cell? ⟨w.heap.size,2,none⟩=some (.int .i64 op)∧W.cell? ⟨w.heap.size,3,none⟩=some (.string vl)∧W.cell? ⟨w.heap.size+1,0,none⟩=some (.int .i64 d.ix)∧W.cell? ⟨w.heap.size+1,1,none⟩=some (.int .i64 d.pa)∧W.cell? ⟨w.heap.size+1,2,none⟩=some (.string d.nam)∧W.cell? ⟨w.heap.size+1,3,none⟩=some (.string d.og)∧W.cell? ⟨w.heap.size+1,4,none⟩=some (.string d.sb)∧W.cell? ⟨w.heap.size+1,5,none⟩=some (.string d.dr)∧W.cell? ⟨w.heap.size+1,6,none⟩=some (.string d.al)∧W.cell? ⟨w.heap.size+1,7,none⟩=some (.int .i64 d.kd)∧W.cell? ⟨w.heap.size+1,8,none⟩=some (.int .i64 d.nb)∧W.cell? ⟨w.heap.size+1,9,none⟩=some (.slice d.ats.A d.ats.l.length d.ats.c))):=Lib.hid fun W hW=>⟨HSf.out W hW,HSx.out W (bt HBw.out hW)⟩
   go_region_held3 (fun W'=>W'.cell? ⟨w2.heap.size,2,none⟩=some (.func (.func 183) #[] #[])∧(W'.cell? ⟨w.heap.size,0,none⟩=some (.int .i64 ky)∧W'.cell? ⟨w.heap.size,1,none⟩=some (.string nmm)∧W'.cell? ⟨w.heap.size,2,none⟩=some (.int .i64 op)∧W'.cell? ⟨w.heap.size,3,none⟩=some (.string vl)∧W'.cell? ⟨w.heap.size+1,0,none⟩=some (.int .i64 d.ix)∧W'.cell? ⟨w.heap.size+1,1,none⟩=some (.int .i64 d.pa)∧W'.cell? ⟨w.heap.size+1,2,none⟩=some (.string d.nam)∧W'.cell? ⟨w.heap.size+1,3,none⟩=some (.string d.og)∧W'.cell? ⟨w.heap.size+1,4,none⟩=some (.string d.sb)∧W'.cell? ⟨w.heap.size+1,5,none⟩=some (.string d.dr)∧W'.cell? ⟨w.heap.size+1,6,none⟩=some (.string d.al)∧W'.cell? ⟨w.heap.size+1,7,none⟩=some (.int .i64 d.kd)∧W'.cell? ⟨w.heap.size+1,8,none⟩=some (.int .i64 d.nb)∧W'.cell? ⟨w.heap.size+1,9,none⟩=some (.slice d.ats.A d.ats.l.length d.ats.c))) ((refine HSa.out _ ?_;first | exact rdBDr (Below.refl _ _) | exact hB5 | exact hB4)) ((first
    | (go_at_call 183;refine (HF2.out _).mono ?_;rintro e w4 ⟨rfl,hb4⟩;(have hB4:Below w3.heap.size w3 w4:=bt (rdBDr (Below.refl _ _)) hb4))
    | (go_at_call 131;refine (HHv.out _).mono ?_;rintro e w5 ⟨rfl,hb5⟩;(have hB5:Below w3.heap.size w3 w5:=bt hB4 hb5))))
   all_goals
    go_wp2
    go_ret
    exact ⟨ret_bool (by rw [HR.out]),bt HB1.out (bt HBw.out hB5)⟩
 · have HHv:=Lib.hid (HHo.out (d.dr) (by exact HD.out.dr))
   have HLo:Hid ((#[.bool (staticB (⟨ky,nmm,op,vl⟩:Tm)),.bool (upB (⟨ky,nmm,op,vl⟩:Tm)),.func (.func 184) #[] #[]]:Array Value).all (·.oneCell')=true):=Lib.hid (look_one _ _ rfl)
   generalize staticB (⟨ky,nmm,op,vl⟩:Tm)=bs at *
   generalize upB (⟨ky,nmm,op,vl⟩:Tm)=bu at *
   generalize holdsB (⟨ky,nmm,op,vl⟩:Tm) (d.dr)=hb at *
   clear HHo
   try dsimp only at HO
   unfold tmV dvV at *
   dsimp only at *
   have hnq:=neqFnL 184
   go_enter Tryz.func107,Tryz.ntmps107
   go_upto_region 1 with fail
   rw [HW1.out]
   obtain ⟨c0,c1,c2,c3,c4,c5,c6,c7,c8,c9,c10,c11,c12,c13⟩:=HSx.out w1 (Below.refl _ _)
   go_upto_region 2 with (go_at_call 130;refine (HO.out _).mono ?_;rintro e w2 ⟨rfl,hb2⟩;have HB2:=Lib.hid hb2;have hst:=stLook_at (w:=w2.alloc (.cells lookZ 196)) (cs:=#[.bool bs,.bool bu,.func (.func 184) #[] #[]]) (heap_alloc_new w2 _) rfl rfl HLo.out;clear hb2)
   clear hst
   obtain ⟨w3,hw3⟩:∃ w3,(w2.alloc (.cells lookZ 196)).setRow w2.heap.size #[.bool bs,.bool bu,.func (.func 184) #[] #[]]=w3:=⟨_,rfl⟩
   have HB3:Hid (Below w2.heap.size w2 w3):=Lib.hid (by rw [←hw3];exact lkBR (below_alloc _ _) (Nat.le_refl _))
   have hf3:w3.heap[w2.heap.size]? = some (.cells #[.bool bs,.bool bu,.func (.func 184) #[] #[]] 196 (0,0)):=by rw [←hw3];exact setRow_heap _ _ _ _ _ _ (heap_alloc_new w2 _)
   have HSf:Hid (∀ W,Below w3.heap.size w3 W→W.cell? ⟨w2.heap.size,2,none⟩=some (.func (.func 184) #[] #[])):=Lib.hid fun W hW=>cellOf ((hW.block _ (blk_lt' hf3)).trans hf3) rfl
   have HBw:Hid (Below w1.heap.size w1 w3):=Lib.hid (bt HB2.out HB3.out)
   rw [hw3]
   have HW3:=Lib.hid hw3
   clear hw3 hf3
   obtain ⟨d0,d1,d2,d3,d4,d5,d6,d7,d8,d9,d10,d11,d12,d13⟩:=HSx.out w3 HBw.out
   have g2:=HSf.out w3 (Below.refl _ _)
   have HSa:Hid (∀ W,Below w3.heap.size w3 W→W.cell? ⟨w2.heap.size,2,none⟩=some (.func (.func 184) #[] #[])∧(W.cell? ⟨w.heap.size,0,none⟩=some (.int .i64 ky)∧W.cell? ⟨w.heap.size,1,none⟩=some (.string nmm)∧W.cell? ⟨w.heap.size,2,none⟩=some (.int .i64 op)∧W.cell? ⟨w.heap.size,3,none⟩=some (.string vl)∧W.cell? ⟨w.heap.size+1,0,none⟩=some (.int .i64 d.ix)∧W.cell? ⟨w.heap.size+1,1,none⟩=some (.int .i64 d.pa)∧W.cell? ⟨w.heap.size+1,2,none⟩=some (.string d.nam)∧W.cell? ⟨w.heap.size+1,3,none⟩=some (.string d.og)∧W.cell? ⟨w.heap.size+1,4,none⟩=some (.string d.sb)∧W.cell? ⟨w.heap.size+1,5,none⟩=some (.string d.dr)∧W.cell? ⟨w.heap.size+1,6,none⟩=some (.string d.al)∧W.cell? ⟨w.heap.size+1,7,none⟩=some (.int .i64 d.kd)∧W.cell? ⟨w.heap.size+1,8,none⟩=some (.int .i64 d.nb)∧W.cell? ⟨w.heap.size+1,9,none⟩=some (.slice d.ats.A d.ats.l.length d.ats.c))):=Lib.hid fun W hW=>⟨HSf.out W hW,HSx.out W (bt HBw.out hW)⟩
   go_region_held3 (fun W'=>W'.cell? ⟨w2.heap.size,2,none⟩=some (.func (.func 184) #[] #[])∧(W'.cell? ⟨w.heap.size,0,none⟩=some (.int .i64 ky)∧W'.cell? ⟨w.heap.size,1,none⟩=some (.string nmm)∧W'.cell? ⟨w.heap.size,2,none⟩=some (.int .i64 op)∧W'.cell? ⟨w.heap.size,3,none⟩=some (.string vl)∧W'.cell? ⟨w.heap.size+1,0,none⟩=some (.int .i64 d.ix)∧W'.cell? ⟨w.heap.size+1,1,none⟩=some (.int .i64 d.pa)∧W'.cell? ⟨w.heap.size+1,2,none⟩=some (.string d.nam)∧W'.cell? ⟨w.heap.size+1,3,none⟩=some (.string d.og)∧W'.cell? ⟨w.heap.size+1,4,none⟩=some (.string d.sb)∧W'.cell? ⟨w.heap.size+1,5,none⟩=some (.string d.dr)∧W'.cell? ⟨w.heap.size+1,6,none⟩=some (.string d.al)∧W'.cell? ⟨w.heap.size+1,7,none⟩=some (.int .i64 d.kd)∧W'.cell? ⟨w.heap.size+1,8,none⟩=some (.int .i64 d.nb)∧W'.cell? ⟨w.heap.size+1,9,none⟩=some (.slice d.ats.A d.ats.l.length d.ats.c))) ((refine HSa.out _ ?_;first | exact rdBDr (Below.refl _ _) | exact hB5 | exact hB4)) ((first
    | (go_at_call 184;refine (HF3.out _).mono ?_;rintro e w4 ⟨rfl,hb4⟩;(have hB4:Below w3.heap.size w3 w4:=bt (rdBDr (Below.refl _ _)) hb4))
    | (go_at_call 131;refine (HHv.out _).mono ?_;rintro e w5 ⟨rfl,hb5⟩;(have hB5:Below w3.heap.size w3 w5:=bt hB4 hb5))))
   all_goals
    go_wp2
    go_ret
    exact ⟨ret_bool (by rw [HR.out]),bt HB1.out (bt HBw.out hB5)⟩
 · have HHv:=Lib.hid (HHo.out (attrS d.ats.l (L nmm)) (by exact HOa.out))
   have HLo:Hid ((#[.bool (staticB (⟨ky,nmm,op,vl⟩:Tm)),.bool (upB (⟨ky,nmm,op,vl⟩:Tm)),.func (.func 185) #[] #[]]:Array Value).all (·.oneCell')=true):=Lib.hid (look_one _ _ rfl)
   generalize staticB (⟨ky,nmm,op,vl⟩:Tm)=bs at *
   generalize upB (⟨ky,nmm,op,vl⟩:Tm)=bu at *
   generalize holdsB (⟨ky,nmm,op,vl⟩:Tm) (attrS d.ats.l (L nmm))=hb at *
   clear HHo
   try dsimp only at HO
   unfold tmV dvV at *
   dsimp only at *
   have hnq:=neqFnL 185
   generalize attrS d.ats.l (L nmm)=av at *
   go_enter Tryz.func107,Tryz.ntmps107
   go_upto_region 1 with fail
   rw [HW1.out]
   obtain ⟨c0,c1,c2,c3,c4,c5,c6,c7,c8,c9,c10,c11,c12,c13⟩:=HSx.out w1 (Below.refl _ _)
   go_upto_region 2 with (go_at_call 130;refine (HO.out _).mono ?_;rintro e w2 ⟨rfl,hb2⟩;have HB2:=Lib.hid hb2;have hst:=stLook_at (w:=w2.alloc (.cells lookZ 196)) (cs:=#[.bool bs,.bool bu,.func (.func 185) #[] #[]]) (heap_alloc_new w2 _) rfl rfl HLo.out;clear hb2)
   clear hst
   obtain ⟨w3,hw3⟩:∃ w3,(w2.alloc (.cells lookZ 196)).setRow w2.heap.size #[.bool bs,.bool bu,.func (.func 185) #[] #[]]=w3:=⟨_,rfl⟩
   have HB3:Hid (Below w2.heap.size w2 w3):=Lib.hid (by rw [←hw3];exact lkBR (below_alloc _ _) (Nat.le_refl _))
   have hf3:w3.heap[w2.heap.size]? = some (.cells #[.bool bs,.bool bu,.func (.func 185) #[] #[]] 196 (0,0)):=by rw [←hw3];exact setRow_heap _ _ _ _ _ _ (heap_alloc_new w2 _)
   have HSf:Hid (∀ W,Below w3.heap.size w3 W→W.cell? ⟨w2.heap.size,2,none⟩=some (.func (.func 185) #[] #[])):=Lib.hid fun W hW=>cellOf ((hW.block _ (blk_lt' hf3)).trans hf3) rfl
   have HBw:Hid (Below w1.heap.size w1 w3):=Lib.hid (bt HB2.out HB3.out)
   rw [hw3]
   have HW3:=Lib.hid hw3
   clear hw3 hf3
   obtain ⟨d0,d1,d2,d3,d4,d5,d6,d7,d8,d9,d10,d11,d12,d13⟩:=HSx.out w3 HBw.out
   have g2:=HSf.out w3 (Below.refl _ _)
   have HSa:Hid (∀ W,Below w3.heap.size w3 W→W.cell? ⟨w2.heap.size,2,none⟩=some (.func (.func 185) #[] #[])∧(W.cell? ⟨w.heap.size,0,none⟩=some (.int .i64 ky)∧W.cell? ⟨w.heap.size,1,none⟩=some (.string nmm)∧W.cell? ⟨w.heap.size,2,none⟩=some (.int .i64 op)∧W.cell? ⟨w.heap.size,3,none⟩=some (.string vl)∧W.cell? ⟨w.heap.size+1,0,none⟩=some (.int .i64 d.ix)∧W.cell? ⟨w.heap.size+1,1,none⟩=some (.int .i64 d.pa)∧W.cell? ⟨w.heap.size+1,2,none⟩=some (.string d.nam)∧W.cell? ⟨w.heap.size+1,3,none⟩=some (.string d.og)∧W.cell? ⟨w.heap.size+1,4,none⟩=some (.string d.sb)∧W.cell? ⟨w.heap.size+1,5,none⟩=some (.string d.dr)∧W.cell? ⟨w.heap.size+1,6,none⟩=some (.string d.al)∧W.cell? ⟨w.heap.size+1,7,none⟩=some (.int .i64 d.kd)∧W.cell? ⟨w.heap.size+1,8,none⟩=some (.int .i64 d.nb)∧W.cell? ⟨w.heap.size+1,9,none⟩=some (.slice d.ats.A d.ats.l.length d.ats.c))):=Lib.hid fun W hW=>⟨HSf.out W hW,HSx.out W (bt HBw.out hW)⟩
   go_region_held3 (fun W'=>W'.cell? ⟨w2.heap.size,2,none⟩=some (.func (.func 185) #[] #[])∧(W'.cell? ⟨w.heap.size,0,none⟩=some (.int .i64 ky)∧W'.cell? ⟨w.heap.size,1,none⟩=some (.string nmm)∧W'.cell? ⟨w.heap.size,2,none⟩=some (.int .i64 op)∧W'.cell? ⟨w.heap.size,3,none⟩=some (.string vl)∧W'.cell? ⟨w.heap.size+1,0,none⟩=some (.int .i64 d.ix)∧W'.cell? ⟨w.heap.size+1,1,none⟩=some (.int .i64 d.pa)∧W'.cell? ⟨w.heap.size+1,2,none⟩=some (.string d.nam)∧W'.cell? ⟨w.heap.size+1,3,none⟩=some (.string d.og)∧W'.cell? ⟨w.heap.size+1,4,none⟩=some (.string d.sb)∧W'.cell? ⟨w.heap.size+1,5,none⟩=some (.string d.dr)∧W'.cell? ⟨w.heap.size+1,6,none⟩=some (.string d.al)∧W'.cell? ⟨w.heap.size+1,7,none⟩=some (.int .i64 d.kd)∧W'.cell? ⟨w.heap.size+1,8,none⟩=some (.int .i64 d.nb)∧W'.cell? ⟨w.heap.size+1,9,none⟩=some (.slice d.ats.A d.ats.l.length d.ats.c))) ((refine HSa.out _ ?_;first | exact rdBDr (Below.refl _ _) | exact hB5 | exact hB4)) ((first
    | (go_at_call 185;refine (HF4.out _ (bt HB1.out (bt HBw.out (rdBDr (Below.refl _ _))))).mono ?_;rintro e w4 ⟨rfl,hb4⟩;(have hB4:Below w3.heap.size w3 w4:=bt (rdBDr (Below.refl _ _)) hb4))
    | (go_at_call 131;refine (HHv.out _).mono ?_;rintro e w5 ⟨rfl,hb5⟩;(have hB5:Below w3.heap.size w3 w5:=bt hB4 hb5))))
   all_goals
    go_wp2
    go_ret
    exact ⟨ret_bool (by rw [HR.out]),bt HB1.out (bt HBw.out hB5)⟩
end
end Go.Proofs.YtobcmlmbblgcdaaGreatDoor

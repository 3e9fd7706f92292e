/- Contracts of functions that the law reaches, and what they rest on; each under the premises that it names. Shortened by a program. -/
import Derived.Test.YtobcmlmbblgcdaaGreatDoorG15
namespace Go.Proofs.YtobcmlmbblgcdaaGreatDoor
open Tryz
set_option maxHeartbeats 8000000
set_option maxRecDepth 100000
section
open Go.RowKit
abbrev kt(k:Int):Value:=if k=2∨k=8 then .func (.func 182) #[] #[]else if k=3∨k=9 then .func (.func 183) #[] #[]else if k=4∨k=10 then .func (.func 184) #[] #[]else if k=5∨k=11 then .func (.func 185) #[] #[]else .nilFunc
def U0(k:Int):Array Value:=#[.bool (k==2||k==3||k==4||k==5),.bool (k==8||k==9||k==10||k==11),kt k]
def km:Array Value:=#[.bool false,.bool false,.nilFunc,.bool false,.bool false,.nilFunc,
 .bool true,.bool false,.func (.func 182) #[] #[],.bool true,.bool false,.func (.func 183) #[] #[],.bool true,.bool false,.func (.func 184) #[] #[],.bool true,.bool false,.func (.func 185) #[] #[],
 .bool false,.bool false,.nilFunc,.bool false,.bool false,.nilFunc,
 .bool false,.bool true,.func (.func 182) #[] #[],.bool false,.bool true,.func (.func 183) #[] #[],.bool false,.bool true,.func (.func 184) #[] #[],.bool false,.bool true,.func (.func 185) #[] #[],
 .bool false,.bool false,.nilFunc,.bool false,.bool false,.nilFunc,.bool false,.bool false,.nilFunc,.bool false,.bool false,.nilFunc,.bool false,.bool false,.nilFunc,.bool false,.bool false,.nilFunc,.bool false,.bool false,.nilFunc,.bool false,.bool false,.nilFunc,.bool false,.bool false,.nilFunc,.bool false,.bool false,.nilFunc,.bool false,.bool false,.nilFunc,.bool false,.bool false,.nilFunc,.bool false,.bool false,.nilFunc]
theorem yM:km.size=75:=rfl
theorem Bs:km.all (·.oneCell')=true:=zg
theorem E8:(prog.info? 217).map (·.size)=some 75:=zg
theorem M2:(prog.info? 196).map (·.size)=some 3:=zg
theorem zi9:zeroCells217.size=75:=zg
theorem zcz:prog.built 217 [(2,.agg #[.bool true,.bool false,.func (.func 182) #[] #[]]),(3,.agg #[.bool true,.bool false,.func (.func 183) #[] #[]]),(4,.agg #[.bool true,.bool false,.func (.func 184) #[] #[]]),(5,.agg #[.bool true,.bool false,.func (.func 185) #[] #[]]),(8,.agg #[.bool false,.bool true,.func (.func 182) #[] #[]]),(9,.agg #[.bool false,.bool true,.func (.func 183) #[] #[]]),(10,.agg #[.bool false,.bool true,.func (.func 184) #[] #[]]),(11,.agg #[.bool false,.bool true,.func (.func 185) #[] #[]])]=some km:=zg
noncomputable def IS(parts:Array (Nat×Value)):Sem Value:=Instr.build 217 parts
theorem zcM(parts:Array (Nat×Value)):Instr.build 217 parts=IS parts:=rfl
theorem zcP(w:World):(IS #[(2,.agg #[.bool true,.bool false,.func (.func 182) #[] #[]]),(3,.agg #[.bool true,.bool false,.func (.func 183) #[] #[]]),(4,.agg #[.bool true,.bool false,.func (.func 184) #[] #[]]),(5,.agg #[.bool true,.bool false,.func (.func 185) #[] #[]]),(8,.agg #[.bool false,.bool true,.func (.func 182) #[] #[]]),(9,.agg #[.bool false,.bool true,.func (.func 183) #[] #[]]),(10,.agg #[.bool false,.bool true,.func (.func 184) #[] #[]]),(11,.agg #[.bool false,.bool true,.func (.func 185) #[] #[]])]).run prog w=.ok (.agg km) w:=by
 unfold IS;exact run_build w _ _ _ zcz
attribute [irreducible] IS
noncomputable def Mz(v u:Value):Sem Unit:=Instr.storeAt 217 v u
theorem zhU(v u:Value):Instr.storeAt 217 v u=Mz v u:=rfl
theorem zdZ{w:World}{g:Nat}{old cs:Array Value}{t:TypeId}(h:w.heap[g]? =some (.cells old t (0,0)))(ho:old.size=75)(hs:cs.size=75)(h1:cs.all (·.oneCell')=true):(Mz (.pointer (some ⟨g,0,none⟩)) (.agg cs)).run prog w=.ok () (w.setRow g cs):=by
 unfold Mz;simp only[Instr.storeAt,Instr.sureAddr,Sem.run_bind,Sem.run_pure,Result.andThen_ok];exact run_storeVar_row w g t 217 old cs h (by rw[hs];exact E8) Mv h1
attribute [irreducible] Mz km
attribute [local go_sem ↓] zcM zhU
theorem zcm(w:World):Calls prog 153 #[] w fun e w'=>e=.returned (.agg km)/\Below w.heap.size w w':=by
 have hbd:=zcP;have hst:=zdZ (w:=w.alloc (.cells zeroCells217 217)) (cs:=km) (heap_alloc_new w _) zi9 yM Bs;go_enter func153,ntmps153;go_wp2;refine Yx rfl zj (heap_alloc_new w _) underlying217 rfl (by rw[yM];exact E8) zj ?_;exact⟨rfl,(zI w _).grown (qM _ _ _) zl (fun j e=>kY)⟩
end
section
open Go.RowKit
abbrev XI:Array Value:=#[.bool false,.bool false,.nilFunc]
def K1(t:Tm):Array Value:=if qu t.op then U0 t.key else XI
theorem Po:XI.all (·.oneCell')=true:=zg
theorem zdN(k:Int):(U0 k).all (·.oneCell')=true:=by
 have hf:(kt k).oneCell'=true:=by
  unfold kt
  repeat (split;· rfl)
  rfl
 rw[Array.all_eq_true_iff_forall_mem];intro u hu;simp only[U0,List.mem_toArray,List.mem_cons,List.not_mem_nil,or_false]at hu;rcases hu with rfl|rfl|rfl
 · rfl
 · rfl
 · exact hf
theorem Ba{k:Int}(h:k<0∨24<k):U0 k=XI:=by
 unfold U0 kt XI;rw[if_neg zb,if_neg zb,if_neg zb,if_neg zb];have e:∀n:Int,0<=n->n<=24->(k==n)=false:=fun n h1 h2=>zG;rw[e 2 zb zb,e 3 zb zb,e 4 zb zb,e 5 zb zb,e 8 zb zb,e 9 zb zb,e 10 zb zb,e 11 zb zb];rfl
def T3(k:Int):Array Value:=km.extract (3*k.toNat) (3*k.toNat+3)
theorem ziN:(List.range 25).map (fun n:Nat=>T3 n)=(List.range 25).map (fun n:Nat=>U0 n):=zg
theorem ziX{k:Int}(h1:0<=k)(h2:k<=24):T3 k=U0 k:=by
 obtain⟨n,rfl⟩:=Int.eq_ofNat_of_zero_le h1;exact List.map_inj_left.1 ziN n (List.mem_range.2 zb)
theorem zcL{k:Int}(h1:0<=k)(h2:k<=24)(W:World):(Instr.index 217 (.agg km) (.int .i64 k)).run prog W=.ok (.agg (U0 k)) W:=by
 have hb:0<=k/\k<25:=⟨zb,zb⟩;rw[<-ziX h1 h2];simp[Instr.index,asIntOf,run_underlying underlying217,hb,part,isAgg196,sizeOf196,T3,Nat.mul_comm]
noncomputable def Nr(v u:Value):Sem Unit:=Instr.storeAt 196 v u
theorem FV(v u:Value):Instr.storeAt 196 v u=Nr v u:=rfl
theorem Ib{w:World}{g:Nat}{old cs:Array Value}{t:TypeId}(h:w.heap[g]? =some (.cells old t (0,0)))(ho:old.size=3)(hs:cs.size=3)(h1:cs.all (·.oneCell')=true):(Nr (.pointer (some ⟨g,0,none⟩)) (.agg cs)).run prog w=.ok () (w.setRow g cs):=by
 unfold Nr;simp only[Instr.storeAt,Instr.sureAddr,Sem.run_bind,Sem.run_pure,Result.andThen_ok];exact run_storeVar_row w g t 196 old cs h (by rw[hs];exact M2) Mv h1
attribute [irreducible] Nr
theorem Lt{w W:World}(h:Below w.heap.size w W):Below w.heap.size w W.drew:=h.drew
theorem DT{w W:World}{g:Nat}{cs:Array Value}(h:Below w.heap.size w W)(hg:w.heap.size<=g):Below w.heap.size w (W.setRow g cs):=h.grown (qM _ _ _) h.size (fun j e=>NU)
attribute [local go_sem ↓] FV
theorem RJ(t:Tm)(w:World):Calls prog 130 #[qi t] w fun e w'=>e=.returned (.agg (K1 t))/\Below w.heap.size w w':=by
 obtain⟨w1,hw1⟩:∃w1,(w.alloc (.cells #[.int .i64 t.key,.string t.name,.int .i64 t.op,.string t.value] 46)).alloc (.cells XI 196)=w1:=⟨_,rfl⟩;have hW1:w1.heap[w.heap.size]? =some (.cells #[.int .i64 t.key,.string t.name,.int .i64 t.op,.string t.value] 46 (0,0)):=Ji;have hW2:w1.heap[w.heap.size+1]? =some (.cells XI 196 (0,0)):=by rw[<-hw1];have:=heap_alloc_new (w.alloc (.cells #[.int .i64 t.key,.string t.name,.int .i64 t.op,.string t.value] 46)) (.cells XI 196);simpa using this
 have hB1:Below w.heap.size w w1:=M8;have hM:=R3 t w1;have HEnd:Hid (∀W cs,Below w1.heap.size w1 W->Below w.heap.size w (W.setRow (w.heap.size+1) cs)):=za fun W cs h=>DT (bt hB1 h) zb;have HB1:=za hB1;have HM:=za hM;have HW1:=za hW1;have HW2:=za hW2;have HOf:Hid (K1 t=if qu t.op then U0 t.key else XI):=za rfl;obtain⟨⟨c0,c1,c2,c3⟩,_⟩:=JB hW1;clear hB1 hM hW1 hW2;have HSx:Hid (∀W,Below w1.heap.size w1 W->W.cell? ⟨w.heap.size,0,none⟩=some (.int .i64 t.key)/\W.cell? ⟨w.heap.size,1,none⟩=some (.string t.name)/\W.cell? ⟨w.heap.size,2,none⟩=some (.int .i64 t.op)/\W.cell? ⟨w.heap.size,3,none⟩=some (.string t.value)):=za fun W hW=>(JB ((hW.block _ (zh HW1.out)).trans HW1.out)).1;have HSz:w1.heap.size=w.heap.size+2:=YS;unfold qi at HM⊢;cases hm:qu t.op with
 | false=>
   rw[hm]at HM HOf;clear hm;go_enter func130,ntmps130;go_upto_region 1 with fail
   try rw[hw1]
   go_wp2_with (go_at_call 105;refine HM.out.mono ?_;rintro e w2 ⟨rfl,hb2⟩;have hz2:=(hb2.block _ (zh HW2.out)).trans HW2.out;have hst:=Ib (cs:=XI) hz2 rfl rfl Po;have HB2:=za hb2;have HZ2:=za hz2;clear hb2 hz2;obtain⟨d0,d1,d2,d3⟩:=HSx.out w2 HB2.out)
   refine Yx rfl zj HZ2.out underlying196 rfl (by exact M2) zj ?_;exact⟨by rw[HOf.out];rfl,HEnd.out _ _ HB2.out⟩
 | true=>
   rw[hm]at HM HOf;clear hm;by_cases hk:t.key<0∨24<t.key
   · have HE:Hid (K1 t=XI):=za (by rw[HOf.out,if_pos rfl,Ba hk]);rcases hk with hk|hk
     · exact jV
     · have hk0:¬t.key<0:=by omega
       exact jV
   · have h1:¬t.key<0:=by omega
     have h2:¬24<t.key:=zb;have hix:=fun W=>zcL (k:=t.key) zb zb W;have HE:Hid (K1 t=U0 t.key):=za (by rw[HOf.out,if_pos rfl]);clear hk;go_enter func130,ntmps130;go_upto_region 1 with fail
     go_wp2_with (go_at_call 105;refine HM.out.mono ?_;rintro e w2 ⟨rfl,hb2⟩;have hz2:=(hb2.block _ (zh HW2.out)).trans HW2.out;have hst:=Ib (cs:=XI) hz2 rfl rfl Po;have HB2:=za hb2;have HZ2:=za hz2;clear hb2 hz2;obtain⟨d0,d1,d2,d3⟩:=HSx.out w2 HB2.out)
     have HSy:Hid (∀W,Below w2.heap.size w2 W->W.cell? ⟨w.heap.size,0,none⟩=some (.int .i64 t.key)/\∀cs,(W.setRow (w.heap.size+1) cs).cell? ⟨w.heap.size,0,none⟩=some (.int .i64 t.key)):=za fun W hW=>⟨(HSx.out W (bt HB2.out hW)).1,fun cs=>by
      have h3:=(HSx.out W (bt HB2.out hW)).1;rw[World.cell?_of_block (w:=W) (setRow_other W (w.heap.size+1) w.heap.size cs zb)];exact h3⟩
     clear hst
     go_region_held3 (fun W'=>W'.cell? ⟨w.heap.size,0,none⟩=some (.int .i64 t.key)) ((first|exact(HSy.out _ (by first|exact Lt zk|exact hB3)).1|exact(HSy.out _ hB3).2 _)) ((go_at_call 153;refine(zcm _).mono ?_;rintro e w3 ⟨rfl,hb3⟩;(have hB3:Below w2.heap.size w2 w3:=bt (Lt zk) hb3);have hz3:=(hB3.block _ (zh HZ2.out)).trans HZ2.out;have hst3:=Ib (cs:=U0 t.key) hz3 rfl rfl (zdN _)))
     all_goals
      go_wp2;refine Yx rfl zj hz3 underlying196 rfl (by exact M2) zj ?_;exact⟨by rw[HE.out],HEnd.out _ _ (bt HB2.out hB3)⟩
def Ub(t:Tm):Value:=if qu t.op then kt t.key else .nilFunc
theorem O6(t:Tm):K1 t=#[.bool (ZZ t),.bool (qS t),Ub t]:=by
 unfold K1 ZZ qS Ub;cases qu t.op<;>rfl
theorem zgS(b u:Bool)(f:Value)(w:World):(Instr.field 196 (.agg #[.bool b,.bool u,f]) 0).run prog w=.ok (.bool b) w:=zg
theorem S9(t:Tm)(w:World):Calls prog 106 #[qi t] w fun e w'=>e=.returned (.bool (ZZ t))/\Below w.heap.size w w':=by
 have hO:=RJ t (w.alloc (.cells #[.int .i64 t.key,.string t.name,.int .i64 t.op,.string t.value] 46));rw[O6]at hO;have HO:=za hO;clear hO;unfold qi at HO⊢;generalize ZZ t=b at*;generalize qS t=u at*;generalize Ub t=f at*;have hfl:=zgS b u f;go_enter func106,ntmps106;exact AD
end
section
open Go.RowKit
theorem zgv(w:World):(binOp .neq 194 .nilFunc .nilFunc).run prog w=.ok (.bool false) w:=zg
theorem zbF(n:Nat)(w:World):(binOp .neq 194 (.func (.func n) #[] #[]) .nilFunc).run prog w=.ok (.bool true) w:=zg
theorem AB(t:Tm)(v:ByteArray)(w:World)(hp:t.value.size<=4611686018427387904)(hv:v.size<=4611686018427387904):Calls prog 131 #[qi t,.string v] w fun e w'=>e=.returned (.bool (YQ t v))/\Below w.heap.size w w':=by
 have HM:=za (fun W=>MI t.value v W hp hv);have HR:Hid (YQ t v=(zS (L t.value) (L v)==(t.op==1))):=za rfl;unfold qi;generalize zS (L t.value) (L v)=b at*;obtain⟨w1,hw1⟩:∃w1,(w.alloc (.cells #[.int .i64 t.key,.string t.name,.int .i64 t.op,.string t.value] 46))=w1:=⟨_,rfl⟩;have HSx:Hid (∀W,Below w1.heap.size w1 W->W.cell? ⟨w.heap.size,2,none⟩=some (.int .i64 t.op)/\W.cell? ⟨w.heap.size,3,none⟩=some (.string t.value)):=za fun W hW=>by
  rw[<-hw1]at hW;obtain⟨_,_,c2,c3⟩:=zbs hW;exact⟨c2,c3⟩
 have HB1:Hid (Below w.heap.size w w1):=za ZQ;have HW1:=za hw1;clear hw1;go_enter func131,ntmps131;go_upto_region 1 with fail
 rw[HW1.out];obtain⟨c2,c3⟩:=HSx.out w1 zk
 go_region_held3 (fun W'=>W'.cell? ⟨w.heap.size,2,none⟩=some (.int .i64 t.op)/\W'.cell? ⟨w.heap.size,3,none⟩=some (.string t.value)) ((refine HSx.out _ ?_;first|exact IA zk|exact hB2)) ((go_at_call 142;refine(HM.out _).mono ?_;rintro e w2 ⟨rfl,hb2⟩;(have hB2:Below w1.heap.size w1 w2:=bt (IA zk) hb2)))
 all_goals
  go_wp2;go_ret;exact⟨ZT (by rw[HR.out]),bt HB1.out hB2⟩
theorem zfC(t:Tm)(d:Dv)(w:World):Calls prog 182 #[qi t,zZ d] w fun e w'=>e=.returned (.string d.og)/\Below w.heap.size w w':=by
 unfold qi zZ;go_enter func182,ntmps182;exact TL
theorem zdA(t:Tm)(d:Dv)(w:World):Calls prog 183 #[qi t,zZ d] w fun e w'=>e=.returned (.string d.sb)/\Below w.heap.size w w':=by
 unfold qi zZ;go_enter func183,ntmps183;exact TL
theorem B7(t:Tm)(d:Dv)(w:World):Calls prog 184 #[qi t,zZ d] w fun e w'=>e=.returned (.string d.dr)/\Below w.heap.size w w':=by
 unfold qi zZ;go_enter func184,ntmps184;exact TL
theorem zdY(t:Tm)(d:Dv)(w:World)(hd:Vo d)(h:EL w w.heap.size d):Calls prog 185 #[qi t,zZ d] w fun e w'=>e=.returned (.string (qI d.ats.l (L t.name)))/\Below w.heap.size w w':=by
 have hgv:=vm d.ats.l (L t.name);have HGe:Hid (∀W,Below w.heap.size w W->Calls prog 27 #[.slice d.ats.A d.ats.l.length d.ats.c,.string t.name] W (Vg (zT d.ats.l (L t.name)) W)):=za fun W hW=>KE d.ats.A d.ats.c d.ats.l t.name W ((h.keep hW).up hW.size) hd.len;unfold Vg at HGe;rw[hgv]at HGe;clear hgv hd h;generalize qI d.ats.l (L t.name)=av at*;generalize (zT d.ats.l (L t.name)).isSome=ab at*;unfold qi zZ;go_enter func185,ntmps185;go_wp2_with (go_at_call 27;refine(HGe.out _ (bt zw zw)).mono ?_;rintro e w4 ⟨rfl,hb4⟩;have HB4:=za hb4;clear hb4)
 go_ret;exact⟨rfl,bt (bt zw zw) HB4.out⟩
theorem zhY{t:Tm}(h:ZZ t=false)(h2:qS t=false):Ub t=.nilFunc:=by
 unfold ZZ at h;unfold qS at h2;unfold Ub;cases hm:qu t.op with
 |false=>rfl
 | true=>
   rw[hm]at h h2;simp only[Bool.true_and,Bool.or_eq_false_iff,beq_eq_false_iff_ne]at h h2;rw[if_pos rfl,kt,if_neg zb,if_neg zb,if_neg zb,if_neg zb]
theorem Oi{t:Tm}(hm:qu t.op=true){v:Value}(h:kt t.key=v):Ub t=v:=by unfold Ub;rw[hm,if_pos rfl,h]
theorem Bj(b u:Bool){f:Value}(h:f.oneCell'=true):(#[.bool b,.bool u,f]:Array Value).all (·.oneCell')=true:=by
 rw[Array.all_eq_true_iff_forall_mem];intro x hx;simp only[List.mem_toArray,List.mem_cons,List.not_mem_nil,or_false]at hx;rcases hx with rfl|rfl|rfl
 · rfl
 · rfl
 · exact h
theorem zcT(t:Tm):(Ub t).oneCell'=true:=by
 unfold Ub kt
 repeat (split;· rfl)
 split
 · repeat (split;· rfl)
   rfl
 · rfl
abbrev Th(a:Nat)(ky:Int)(nmm:ByteArray)(op:Int)(vl:ByteArray)(d:Dv)(W:World):Prop:=W.cell? ⟨a,0,none⟩=some (.int .i64 ky)/\W.cell? ⟨a,1,none⟩=some (.string nmm)/\W.cell? ⟨a,2,none⟩=some (.int .i64 op)/\W.cell? ⟨a,3,none⟩=some (.string vl)/\W.cell? ⟨a+1,0,none⟩=some (.int .i64 d.ix)/\W.cell? ⟨a+1,1,none⟩=some (.int .i64 d.pa)/\W.cell? ⟨a+1,2,none⟩=some (.string d.nam)/\W.cell? ⟨a+1,3,none⟩=some (.string d.og)/\W.cell? ⟨a+1,4,none⟩=some (.string d.sb)/\W.cell? ⟨a+1,5,none⟩=some (.string d.dr)/\W.cell? ⟨a+1,6,none⟩=some (.string d.al)/\W.cell? ⟨a+1,7,none⟩=some (.int .i64 d.kd)/\W.cell? ⟨a+1,8,none⟩=some (.int .i64 d.nb)/\W.cell? ⟨a+1,9,none⟩=some (.slice d.ats.A d.ats.l.length d.ats.c)
attribute [local go_sem ↓] FV
theorem Lk(t:Tm)(d:Dv)(w:World)(hp:t.value.size<=4611686018427387904)(hd:Vo d)(h:EL w w.heap.size d):
 Calls prog 107 #[qi t,zZ d] w fun e w'=>e=.returned (.bool (Ym t d))/\Below w.heap.size w w':=by
 obtain⟨ky,nmm,op,vl⟩:=t;dsimp only at hp;have hO:=fun W=>RJ (⟨ky,nmm,op,vl⟩:Tm) W;rw[O6]at hO;have HO:=za hO;have HHo:=za (fun v (hv:v.size<=4611686018427387904) W=>AB (⟨ky,nmm,op,vl⟩:Tm) v W hp hv);have HF4:Hid (∀W,Below w.heap.size w W->Calls prog 185 #[qi (⟨ky,nmm,op,vl⟩:Tm),zZ d] W fun e w'=>e=.returned (.string (qI d.ats.l (L nmm)))/\Below W.heap.size W w'):=za fun W hW=>zdY (⟨ky,nmm,op,vl⟩:Tm) d W hd ((h.keep hW).up hW.size);have HD:=za hd;have HOa:=za (zeV hd.ats (L nmm));have h1c:=zcT (⟨ky,nmm,op,vl⟩:Tm);clear hO hd h hp;obtain⟨w1,hw1⟩:∃w1,(w.alloc (.cells #[.int .i64 ky,.string nmm,.int .i64 op,.string vl] 46)).alloc (.cells #[.int .i64 d.ix,.int .i64 d.pa,.string d.nam,.string d.og,.string d.sb,.string d.dr,.string d.al,.int .i64 d.kd,.int .i64 d.nb,.slice d.ats.A d.ats.l.length d.ats.c] 67)=w1:=⟨_,rfl⟩;have hT:w1.heap[w.heap.size]? =some (.cells #[.int .i64 ky,.string nmm,.int .i64 op,.string vl] 46):=Ji;have hD:w1.heap[w.heap.size+1]? =some (.cells #[.int .i64 d.ix,.int .i64 d.pa,.string d.nam,.string d.og,.string d.sb,.string d.dr,.string d.al,.int .i64 d.kd,.int .i64 d.nb,.slice d.ats.A d.ats.l.length d.ats.c] 67):=by rw[<-hw1];have:=heap_alloc_new (w.alloc (.cells #[.int .i64 ky,.string nmm,.int .i64 op,.string vl] 46)) (.cells #[.int .i64 d.ix,.int .i64 d.pa,.string d.nam,.string d.og,.string d.sb,.string d.dr,.string d.al,.int .i64 d.kd,.int .i64 d.nb,.slice d.ats.A d.ats.l.length d.ats.c] 67);simpa using this
 have HSx:Hid (∀W,Below w1.heap.size w1 W->Th w.heap.size ky nmm op vl d W):=za fun W hW=>by
  have h1:=(hW.block _ (zh hT)).trans hT;have h2:=(hW.block _ (zh hD)).trans hD;exact⟨zd h1 rfl,zd h1 rfl,zd h1 rfl,zd h1 rfl,zd h2 rfl,zd h2 rfl,zd h2 rfl,zd h2 rfl,zd h2 rfl,zd h2 rfl,zd h2 rfl,zd h2 rfl,zd h2 rfl,zd h2 rfl⟩
 have HB1:Hid (Below w.heap.size w w1):=za M8;have HSz:Hid (w1.heap.size=w.heap.size+2):=za YS;have HW1:=za hw1;clear hw1 hT hD;have HCS:=za (show(Ym (⟨ky,nmm,op,vl⟩:Tm) d=false/\Ub (⟨ky,nmm,op,vl⟩:Tm)=.nilFunc)∨∃F v,v.size<=4611686018427387904/\Ym (⟨ky,nmm,op,vl⟩:Tm) d=YQ (⟨ky,nmm,op,vl⟩:Tm) v/\Ub (⟨ky,nmm,op,vl⟩:Tm)=.func (.func F) #[] #[]/\(∀args w,(callFunc F args).run prog w=.ok (.enter F args) w)/\∀W,Below w.heap.size w W->Calls prog F #[qi (⟨ky,nmm,op,vl⟩:Tm),zZ d] W fun e w'=>e=.returned (.string v)/\Below W.heap.size W w' by
  by_cases hno:ZZ (⟨ky,nmm,op,vl⟩:Tm)=false/\qS (⟨ky,nmm,op,vl⟩:Tm)=false
  · exact .inl ⟨zhX hno.1 hno.2,zhY hno.1 hno.2⟩
  have hm:qu op=true:=by
   cases hm:qu op with
   |true=>rfl
   |false=>exact absurd ⟨by unfold ZZ;rw[hm];rfl,by unfold qS;rw[hm];rfl⟩ hno
  have hk:ky=2∨ky=3∨ky=4∨ky=5∨ky=8∨ky=9∨ky=10∨ky=11:=by
   refine Classical.byContradiction fun h=>hno ⟨?_,?_⟩
   · unfold ZZ;rw[hm];simp;omega
   · unfold qS;rw[hm];simp;omega
  rcases hk with rfl|rfl|rfl|rfl|rfl|rfl|rfl|rfl<;>first
   |exact .inr ⟨_,_,HD.out.og,Nw hm _ rfl,Oi hm rfl,enters_of func182 zg rfl,fun W _=>zfC _ d W⟩
   |exact .inr ⟨_,_,HD.out.sb,Nw hm _ rfl,Oi hm rfl,enters_of func183 zg rfl,fun W _=>zdA _ d W⟩
   |exact .inr ⟨_,_,HD.out.dr,Nw hm _ rfl,Oi hm rfl,enters_of func184 zg rfl,fun W _=>B7 _ d W⟩
   |exact .inr ⟨_,_,HOa.out,Nw hm _ rfl,Oi hm rfl,enters_of func185 zg rfl,HF4.out⟩)
 have HLo:=za (Bj (ZZ (⟨ky,nmm,op,vl⟩:Tm)) (qS (⟨ky,nmm,op,vl⟩:Tm)) h1c);generalize Ym (⟨ky,nmm,op,vl⟩:Tm) d=rb at*;generalize Ub (⟨ky,nmm,op,vl⟩:Tm)=V at*;generalize ZZ (⟨ky,nmm,op,vl⟩:Tm)=bs at*;generalize qS (⟨ky,nmm,op,vl⟩:Tm)=bu at*;clear HF4 HD HOa;unfold qi zZ at*;dsimp only at*;go_enter func107,ntmps107;go_upto_region 1 with fail
 rw[HW1.out];obtain⟨c0,c1,c2,c3,c4,c5,c6,c7,c8,c9,c10,c11,c12,c13⟩:=HSx.out w1 zk;go_upto_region 2 with(go_at_call 130;refine(HO.out _).mono ?_;rintro e w2 ⟨rfl,hb2⟩;have HB2:=za hb2;have hst:=Ib (w:=w2.alloc (.cells XI 196)) (cs:=#[.bool bs,.bool bu,V]) (heap_alloc_new w2 _) rfl rfl HLo.out;clear hb2)
 clear hst;obtain⟨w3,hw3⟩:∃w3,(w2.alloc (.cells XI 196)).setRow w2.heap.size #[.bool bs,.bool bu,V]=w3:=⟨_,rfl⟩;have HB3:Hid (Below w2.heap.size w2 w3):=za (by rw[<-hw3];exact DT zw zo);have hf3:w3.heap[w2.heap.size]? =some (.cells #[.bool bs,.bool bu,V] 196 (0,0)):=by rw[<-hw3];exact setRow_heap _ _ _ _ _ _ (heap_alloc_new w2 _)
 have HSf:Hid (∀W,Below w3.heap.size w3 W->W.cell? ⟨w2.heap.size,2,none⟩=some (V)):=za fun W hW=>zd ((hW.block _ (zh hf3)).trans hf3) rfl;have HBw:Hid (Below w1.heap.size w1 w3):=za (bt HB2.out HB3.out);rw[hw3];have HW3:=za hw3;clear hw3 hf3;obtain⟨d0,d1,d2,d3,d4,d5,d6,d7,d8,d9,d10,d11,d12,d13⟩:=HSx.out w3 HBw.out;have g2:=HSf.out w3 zk;rcases HCS.out with⟨rfl,rfl⟩|⟨F,v,hz,rfl,rfl,eg,hF⟩
 · have hnq:=zgv;go_quiet (fail)
   go_wp2;go_ret;exact⟨ZT rfl,ZN (bt HB1.out HBw.out) _⟩
 have hnq:=zbF F;have HHv:=za (HHo.out v hz);have HF:=za hF;generalize hhb:YQ (⟨ky,nmm,op,vl⟩:Tm) v=hb at*;have HHb:=za hhb;clear HHo hF hhb;have HSa:Hid (∀W,Below w3.heap.size w3 W->W.cell? ⟨w2.heap.size,2,none⟩=some (.func (.func F) #[] #[])/\Th w.heap.size ky nmm op vl d W):=za fun W hW=>⟨HSf.out W hW,HSx.out W (bt HBw.out hW)⟩
 go_region_held3 (fun W'=>W'.cell? ⟨w2.heap.size,2,none⟩=some (.func (.func F) #[] #[])/\Th w.heap.size ky nmm op vl d W') ((refine HSa.out _ ?_;first|exact IA zk|exact hB5|exact hB4)) ((first
  |(go_at_call 131;refine(HHv.out _).mono ?_;rintro e w5 ⟨rfl,hb5⟩;(have hB5:Below w3.heap.size w3 w5:=bt hB4 hb5))
  |(refine(HF.out _ (bt HB1.out (bt HBw.out (IA zk)))).mono ?_;rintro e w4 ⟨rfl,hb4⟩;(have hB4:Below w3.heap.size w3 w4:=bt (IA zk) hb4))))
 all_goals
  go_wp2;go_ret;exact⟨ZT HHb.out.symm,bt HB1.out (bt HBw.out hB5)⟩
end
end Go.Proofs.YtobcmlmbblgcdaaGreatDoor

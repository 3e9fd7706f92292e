/- Contracts of functions that the law reaches, and what they rest on; each under the premises that it names. Shortened by a program. -/
import Derived.Test.YtecbmndgpepkcaaGreatDoorG15
namespace Go.Proofs.YtecbmndgpepkcaaGreatDoor
open Tryz
set_option maxHeartbeats 8000000
set_option maxRecDepth 100000
section
open Go.RowKit
abbrev kG(k:Int):Value:=if k=2∨k=8 then .func (.func 183) #[] #[]else if k=3∨k=9 then .func (.func 184) #[] #[]else if k=4∨k=10 then .func (.func 185) #[] #[]else if k=5∨k=11 then .func (.func 186) #[] #[]else .nilFunc
def UN(k:Int):Array Value:=#[.bool (k==2||k==3||k==4||k==5),.bool (k==8||k==9||k==10||k==11),kG k]
def V8:Array Value:=#[.bool false,.bool false,.nilFunc,.bool false,.bool false,.nilFunc,
 .bool true,.bool false,.func (.func 183) #[] #[],.bool true,.bool false,.func (.func 184) #[] #[],.bool true,.bool false,.func (.func 185) #[] #[],.bool true,.bool false,.func (.func 186) #[] #[],
 .bool false,.bool false,.nilFunc,.bool false,.bool false,.nilFunc,
 .bool false,.bool true,.func (.func 183) #[] #[],.bool false,.bool true,.func (.func 184) #[] #[],.bool false,.bool true,.func (.func 185) #[] #[],.bool false,.bool true,.func (.func 186) #[] #[],
 .bool false,.bool false,.nilFunc,.bool false,.bool false,.nilFunc,.bool false,.bool false,.nilFunc,.bool false,.bool false,.nilFunc,.bool false,.bool false,.nilFunc,.bool false,.bool false,.nilFunc,.bool false,.bool false,.nilFunc,.bool false,.bool false,.nilFunc,.bool false,.bool false,.nilFunc,.bool false,.bool false,.nilFunc,.bool false,.bool false,.nilFunc,.bool false,.bool false,.nilFunc,.bool false,.bool false,.nilFunc]
theorem yC:V8.size=75:=rfl
theorem SQ:V8.all (·.oneCell')=true:=zg
theorem Fu:(prog.info? 214).map (·.size)=some 75:=zg
theorem MN:(prog.info? 184).map (·.size)=some 3:=zg
theorem S1:zeroCells214.size=75:=zg
theorem ze0:prog.built 214 [(2,.agg #[.bool true,.bool false,.func (.func 183) #[] #[]]),(3,.agg #[.bool true,.bool false,.func (.func 184) #[] #[]]),(4,.agg #[.bool true,.bool false,.func (.func 185) #[] #[]]),(5,.agg #[.bool true,.bool false,.func (.func 186) #[] #[]]),(8,.agg #[.bool false,.bool true,.func (.func 183) #[] #[]]),(9,.agg #[.bool false,.bool true,.func (.func 184) #[] #[]]),(10,.agg #[.bool false,.bool true,.func (.func 185) #[] #[]]),(11,.agg #[.bool false,.bool true,.func (.func 186) #[] #[]])]=some V8:=by
 kernel_rfl
noncomputable def Mo(parts:Array (Nat×Value)):Sem Value:=Instr.build 214 parts
theorem zdm(parts:Array (Nat×Value)):Instr.build 214 parts=Mo parts:=rfl
theorem zfC(w:World):(Mo #[(2,.agg #[.bool true,.bool false,.func (.func 183) #[] #[]]),(3,.agg #[.bool true,.bool false,.func (.func 184) #[] #[]]),(4,.agg #[.bool true,.bool false,.func (.func 185) #[] #[]]),(5,.agg #[.bool true,.bool false,.func (.func 186) #[] #[]]),(8,.agg #[.bool false,.bool true,.func (.func 183) #[] #[]]),(9,.agg #[.bool false,.bool true,.func (.func 184) #[] #[]]),(10,.agg #[.bool false,.bool true,.func (.func 185) #[] #[]]),(11,.agg #[.bool false,.bool true,.func (.func 186) #[] #[]])]).run prog w=.ok (.agg V8) w:=by
 unfold Mo;exact run_build w _ _ _ ze0
attribute [irreducible] Mo
noncomputable def M5(v u:Value):Sem Unit:=Instr.storeAt 214 v u
theorem Bx(v u:Value):Instr.storeAt 214 v u=M5 v u:=rfl
theorem zjh{w:World}{g:Nat}{old cs:Array Value}{t:TypeId}(h:w.heap[g]? =some (.cells old t (0,0)))(ho:old.size=75)(hs:cs.size=75)(h1:cs.all (·.oneCell')=true):(M5 (.pointer (some ⟨g,0,none⟩)) (.agg cs)).run prog w=.ok () (w.setRow g cs):=by
 unfold M5;simp only[Instr.storeAt,Instr.sureAddr,Sem.run_bind,Sem.run_pure,Result.andThen_ok];exact run_storeVar_row w g t 214 old cs h (by rw[hs];exact Fu) IZ h1
attribute [irreducible] M5 V8
attribute [local go_sem ↓] zdm Bx
theorem zcO(w:World):Calls prog 149 #[] w fun e w'=>e=.returned (.agg V8)/\Below w.heap.size w w':=by
 have hbd:=zfC;have hst:=zjh (w:=w.alloc (.cells zeroCells214 214)) (cs:=V8) (heap_alloc_new w _) S1 yC SQ;go_enter func149,ntmps149;go_wp2;refine Yx rfl zj (heap_alloc_new w _) underlying214 rfl (by rw[yC];exact Fu) zj ?_;exact⟨rfl,(zI w _).grown (qK _ _ _) zl (fun j e=>km)⟩
end
section
open Go.RowKit
abbrev Xq:Array Value:=#[.bool false,.bool false,.nilFunc]
def Jz(t:Tm):Array Value:=if qA t.op then UN t.key else Xq
theorem PM:Xq.all (·.oneCell')=true:=zg
theorem S9(k:Int):(UN k).all (·.oneCell')=true:=by
 have hf:(kG k).oneCell'=true:=by
  unfold kG
  repeat (split;· rfl)
  rfl
 rw[Array.all_eq_true_iff_forall_mem];intro u hu;simp only[UN,List.mem_toArray,List.mem_cons,List.not_mem_nil,or_false]at hu;rcases hu with rfl|rfl|rfl
 · rfl
 · rfl
 · exact hf
theorem ziu{k:Int}(h:k<0∨24<k):UN k=Xq:=by
 unfold UN kG Xq;rw[if_neg zb,if_neg zb,if_neg zb,if_neg zb];have e:∀n:Int,0<=n->n<=24->(k==n)=false:=fun n h1 h2=>zH;rw[e 2 zb zb,e 3 zb zb,e 4 zb zb,e 5 zb zb,e 8 zb zb,e 9 zb zb,e 10 zb zb,e 11 zb zb];rfl
def TF(k:Int):Array Value:=V8.extract (3*k.toNat) (3*k.toNat+3)
theorem zeN:(List.range 25).map (fun n:Nat=>TF n)=(List.range 25).map (fun n:Nat=>UN n):=zg
theorem zhr{k:Int}(h1:0<=k)(h2:k<=24):TF k=UN k:=by
 obtain⟨n,rfl⟩:=Int.eq_ofNat_of_zero_le h1;exact List.map_inj_left.1 zeN n (List.mem_range.2 zb)
theorem zgY{k:Int}(h1:0<=k)(h2:k<=24)(W:World):(Instr.index 214 (.agg V8) (.int .i64 k)).run prog W=.ok (.agg (UN k)) W:=by
 have hb:0<=k/\k<25:=⟨zb,zb⟩;rw[<-zhr h1 h2];simp[Instr.index,asIntOf,run_underlying underlying214,hb,part,isAgg184,sizeOf184,TF,Nat.mul_comm]
noncomputable def IS(v u:Value):Sem Unit:=Instr.storeAt 184 v u
theorem CF(v u:Value):Instr.storeAt 184 v u=IS v u:=rfl
theorem J4{w:World}{g:Nat}{old cs:Array Value}{t:TypeId}(h:w.heap[g]? =some (.cells old t (0,0)))(ho:old.size=3)(hs:cs.size=3)(h1:cs.all (·.oneCell')=true):(IS (.pointer (some ⟨g,0,none⟩)) (.agg cs)).run prog w=.ok () (w.setRow g cs):=by
 unfold IS;simp only[Instr.storeAt,Instr.sureAddr,Sem.run_bind,Sem.run_pure,Result.andThen_ok];exact run_storeVar_row w g t 184 old cs h (by rw[hs];exact MN) IZ h1
attribute [irreducible] IS
theorem yx{w W:World}(h:Below w.heap.size w W):Below w.heap.size w W.drew:=h.drew
theorem F7{w W:World}{g:Nat}{cs:Array Value}(h:Below w.heap.size w W)(hg:w.heap.size<=g):Below w.heap.size w (W.setRow g cs):=h.grown (qK _ _ _) h.size (fun j e=>N3)
attribute [local go_sem ↓] CF
theorem Tp(t:Tm)(w:World):Calls prog 116 #[qe t] w fun e w'=>e=.returned (.agg (Jz t))/\Below w.heap.size w w':=by
 obtain⟨w1,hw1⟩:∃w1,(w.alloc (.cells #[.int .i64 t.key,.string t.name,.int .i64 t.op,.string t.value] 52)).alloc (.cells Xq 184)=w1:=⟨_,rfl⟩;have hW1:w1.heap[w.heap.size]? =some (.cells #[.int .i64 t.key,.string t.name,.int .i64 t.op,.string t.value] 52 (0,0)):=JN;have hW2:w1.heap[w.heap.size+1]? =some (.cells Xq 184 (0,0)):=by rw[<-hw1];have:=heap_alloc_new (w.alloc (.cells #[.int .i64 t.key,.string t.name,.int .i64 t.op,.string t.value] 52)) (.cells Xq 184);simpa using this
 have hB1:Below w.heap.size w w1:=IQ;have hM:=TW t w1;have HEnd:Hid (∀W cs,Below w1.heap.size w1 W->Below w.heap.size w (W.setRow (w.heap.size+1) cs)):=za fun W cs h=>F7 (bt hB1 h) zb;have HB1:=za hB1;have HM:=za hM;have HW1:=za hW1;have HW2:=za hW2;have HOf:Hid (Jz t=if qA t.op then UN t.key else Xq):=za rfl;obtain⟨⟨c0,c1,c2,c3⟩,_⟩:=KV hW1;clear hB1 hM hW1 hW2;have HSx:Hid (∀W,Below w1.heap.size w1 W->W.cell? ⟨w.heap.size,0,none⟩=some (.int .i64 t.key)/\W.cell? ⟨w.heap.size,1,none⟩=some (.string t.name)/\W.cell? ⟨w.heap.size,2,none⟩=some (.int .i64 t.op)/\W.cell? ⟨w.heap.size,3,none⟩=some (.string t.value)):=za fun W hW=>(KV ((hW.block _ (zh HW1.out)).trans HW1.out)).1;have HSz:w1.heap.size=w.heap.size+2:=YJ;unfold qe at HM⊢;cases hm:qA t.op with
 | false=>
   rw[hm]at HM HOf;clear hm;go_enter func116,ntmps116;go_upto_region 1 with fail
   try rw[hw1]
   go_wp2_with (go_at_call 90;refine HM.out.mono ?_;rintro e w2 ⟨rfl,hb2⟩;have hz2:=(hb2.block _ (zh HW2.out)).trans HW2.out;have hst:=J4 (cs:=Xq) hz2 rfl rfl PM;have HB2:=za hb2;have HZ2:=za hz2;clear hb2 hz2;obtain⟨d0,d1,d2,d3⟩:=HSx.out w2 HB2.out)
   refine Yx rfl zj HZ2.out underlying184 rfl (by exact MN) zj ?_;exact⟨by rw[HOf.out];rfl,HEnd.out _ _ HB2.out⟩
 | true=>
   rw[hm]at HM HOf;clear hm;by_cases hk:t.key<0∨24<t.key
   · have HE:Hid (Jz t=Xq):=za (by rw[HOf.out,if_pos rfl,ziu hk]);rcases hk with hk|hk
     · exact Fk
     · have hk0:¬t.key<0:=by omega
       exact Fk
   · have h1:¬t.key<0:=by omega
     have h2:¬24<t.key:=zb;have hix:=fun W=>zgY (k:=t.key) zb zb W;have HE:Hid (Jz t=UN t.key):=za (by rw[HOf.out,if_pos rfl]);clear hk;go_enter func116,ntmps116;go_upto_region 1 with fail
     go_wp2_with (go_at_call 90;refine HM.out.mono ?_;rintro e w2 ⟨rfl,hb2⟩;have hz2:=(hb2.block _ (zh HW2.out)).trans HW2.out;have hst:=J4 (cs:=Xq) hz2 rfl rfl PM;have HB2:=za hb2;have HZ2:=za hz2;clear hb2 hz2;obtain⟨d0,d1,d2,d3⟩:=HSx.out w2 HB2.out)
     have HSy:Hid (∀W,Below w2.heap.size w2 W->W.cell? ⟨w.heap.size,0,none⟩=some (.int .i64 t.key)/\∀cs,(W.setRow (w.heap.size+1) cs).cell? ⟨w.heap.size,0,none⟩=some (.int .i64 t.key)):=za fun W hW=>⟨(HSx.out W (bt HB2.out hW)).1,fun cs=>by
      have h3:=(HSx.out W (bt HB2.out hW)).1;rw[World.cell?_of_block (w:=W) (setRow_other W (w.heap.size+1) w.heap.size cs zb)];exact h3⟩
     clear hst
     go_region_held3 (fun W'=>W'.cell? ⟨w.heap.size,0,none⟩=some (.int .i64 t.key)) ((first|exact(HSy.out _ (by first|exact yx zk|exact hB3)).1|exact(HSy.out _ hB3).2 _)) ((go_at_call 149;refine(zcO _).mono ?_;rintro e w3 ⟨rfl,hb3⟩;(have hB3:Below w2.heap.size w2 w3:=bt (yx zk) hb3);have hz3:=(hB3.block _ (zh HZ2.out)).trans HZ2.out;have hst3:=J4 (cs:=UN t.key) hz3 rfl rfl (S9 _)))
     all_goals
      go_wp2;refine Yx rfl zj hz3 underlying184 rfl (by exact MN) zj ?_;exact⟨by rw[HE.out],HEnd.out _ _ (bt HB2.out hB3)⟩
def Ub(t:Tm):Value:=if qA t.op then kG t.key else .nilFunc
theorem Ta(t:Tm):Jz t=#[.bool (Z4 t),.bool (qO t),Ub t]:=by
 unfold Jz Z4 qO Ub;cases qA t.op<;>rfl
theorem zdu(b u:Bool)(f:Value)(w:World):(Instr.field 184 (.agg #[.bool b,.bool u,f]) 0).run prog w=.ok (.bool b) w:=zg
theorem zaa(t:Tm)(w:World):Calls prog 91 #[qe t] w fun e w'=>e=.returned (.bool (Z4 t))/\Below w.heap.size w w':=by
 have hO:=Tp t (w.alloc (.cells #[.int .i64 t.key,.string t.name,.int .i64 t.op,.string t.value] 52));rw[Ta]at hO;have HO:=za hO;clear hO;unfold qe at HO⊢;generalize Z4 t=b at*;generalize qO t=u at*;generalize Ub t=f at*;have hfl:=zdu b u f;go_enter func91,ntmps91;exact Lu
end
section
open Go.RowKit
theorem zjl(w:World):(binOp .neq 182 .nilFunc .nilFunc).run prog w=.ok (.bool false) w:=zg
theorem zeB(n:Nat)(w:World):(binOp .neq 182 (.func (.func n) #[] #[]) .nilFunc).run prog w=.ok (.bool true) w:=zg
theorem yB(t:Tm)(v:ByteArray)(w:World)(hp:t.value.size<=4611686018427387904)(hv:v.size<=4611686018427387904):Calls prog 117 #[qe t,.string v] w fun e w'=>e=.returned (.bool (YQ t v))/\Below w.heap.size w w':=by
 have HM:=za (fun W=>I0 t.value v W hp hv);have HR:Hid (YQ t v=(zS (L t.value) (L v)==(t.op==1))):=za rfl;unfold qe;generalize zS (L t.value) (L v)=b at*;obtain⟨w1,hw1⟩:∃w1,(w.alloc (.cells #[.int .i64 t.key,.string t.name,.int .i64 t.op,.string t.value] 52))=w1:=⟨_,rfl⟩;have HSx:Hid (∀W,Below w1.heap.size w1 W->W.cell? ⟨w.heap.size,2,none⟩=some (.int .i64 t.op)/\W.cell? ⟨w.heap.size,3,none⟩=some (.string t.value)):=za fun W hW=>by
  rw[<-hw1]at hW;obtain⟨_,_,c2,c3⟩:=zca hW;exact⟨c2,c3⟩
 have HB1:Hid (Below w.heap.size w w1):=za ZV;have HW1:=za hw1;clear hw1;go_enter func117,ntmps117;go_upto_region 1 with fail
 rw[HW1.out];obtain⟨c2,c3⟩:=HSx.out w1 zk
 go_region_held3 (fun W'=>W'.cell? ⟨w.heap.size,2,none⟩=some (.int .i64 t.op)/\W'.cell? ⟨w.heap.size,3,none⟩=some (.string t.value)) ((refine HSx.out _ ?_;first|exact J0 zk|exact hB2)) ((go_at_call 127;refine(HM.out _).mono ?_;rintro e w2 ⟨rfl,hb2⟩;(have hB2:Below w1.heap.size w1 w2:=bt (J0 zk) hb2)))
 all_goals
  go_wp2;go_ret;exact⟨ZD (by rw[HR.out]),bt HB1.out hB2⟩
theorem zcN(t:Tm)(d:Dv)(w:World):Calls prog 183 #[qe t,zY d] w fun e w'=>e=.returned (.string d.og)/\Below w.heap.size w w':=by
 unfold qe zY;go_enter func183,ntmps183;exact PR
theorem By(t:Tm)(d:Dv)(w:World):Calls prog 184 #[qe t,zY d] w fun e w'=>e=.returned (.string d.sb)/\Below w.heap.size w w':=by
 unfold qe zY;go_enter func184,ntmps184;exact PR
theorem zhN(t:Tm)(d:Dv)(w:World):Calls prog 185 #[qe t,zY d] w fun e w'=>e=.returned (.string d.dr)/\Below w.heap.size w w':=by
 unfold qe zY;go_enter func185,ntmps185;exact PR
theorem za3(t:Tm)(d:Dv)(w:World)(hd:VF d)(h:EY w w.heap.size d):Calls prog 186 #[qe t,zY d] w fun e w'=>e=.returned (.string (qF d.ats.l (L t.name)))/\Below w.heap.size w w':=by
 have hgv:=Ey d.ats.l (L t.name);have HGe:Hid (∀W,Below w.heap.size w W->Calls prog 33 #[.slice d.ats.A d.ats.l.length d.ats.c,.string t.name] W (Vd (zR d.ats.l (L t.name)) W)):=za fun W hW=>KL d.ats.A d.ats.c d.ats.l t.name W ((h.keep hW).up hW.size) hd.len;unfold Vd at HGe;rw[hgv]at HGe;clear hgv hd h;generalize qF d.ats.l (L t.name)=av at*;generalize (zR d.ats.l (L t.name)).isSome=ab at*;unfold qe zY;go_enter func186,ntmps186;go_wp2_with (go_at_call 33;refine(HGe.out _ (bt zw zw)).mono ?_;rintro e w4 ⟨rfl,hb4⟩;have HB4:=za hb4;clear hb4)
 go_ret;exact⟨rfl,bt (bt zw zw) HB4.out⟩
theorem zhc{t:Tm}(h:Z4 t=false)(h2:qO t=false):Ub t=.nilFunc:=by
 unfold Z4 at h;unfold qO at h2;unfold Ub;cases hm:qA t.op with
 |false=>rfl
 | true=>
   rw[hm]at h h2;simp only[Bool.true_and,Bool.or_eq_false_iff,beq_eq_false_iff_ne]at h h2;rw[if_pos rfl,kG,if_neg zb,if_neg zb,if_neg zb,if_neg zb]
theorem IJ{t:Tm}(hm:qA t.op=true){v:Value}(h:kG t.key=v):Ub t=v:=by unfold Ub;rw[hm,if_pos rfl,h]
theorem zej(b u:Bool){f:Value}(h:f.oneCell'=true):(#[.bool b,.bool u,f]:Array Value).all (·.oneCell')=true:=by
 rw[Array.all_eq_true_iff_forall_mem];intro x hx;simp only[List.mem_toArray,List.mem_cons,List.not_mem_nil,or_false]at hx;rcases hx with rfl|rfl|rfl
 · rfl
 · rfl
 · exact h
theorem zah(t:Tm):(Ub t).oneCell'=true:=by
 unfold Ub kG
 repeat (split;· rfl)
 split
 · repeat (split;· rfl)
   rfl
 · rfl
abbrev Tj(a:Nat)(ky:Int)(nmm:ByteArray)(op:Int)(vl:ByteArray)(d:Dv)(W:World):Prop:=W.cell? ⟨a,0,none⟩=some (.int .i64 ky)/\W.cell? ⟨a,1,none⟩=some (.string nmm)/\W.cell? ⟨a,2,none⟩=some (.int .i64 op)/\W.cell? ⟨a,3,none⟩=some (.string vl)/\W.cell? ⟨a+1,0,none⟩=some (.int .i64 d.ix)/\W.cell? ⟨a+1,1,none⟩=some (.int .i64 d.pa)/\W.cell? ⟨a+1,2,none⟩=some (.string d.nam)/\W.cell? ⟨a+1,3,none⟩=some (.string d.og)/\W.cell? ⟨a+1,4,none⟩=some (.string d.sb)/\W.cell? ⟨a+1,5,none⟩=some (.string d.dr)/\W.cell? ⟨a+1,6,none⟩=some (.string d.al)/\W.cell? ⟨a+1,7,none⟩=some (.int .i64 d.kd)/\W.cell? ⟨a+1,8,none⟩=some (.int .i64 d.nb)/\W.cell? ⟨a+1,9,none⟩=some (.slice d.ats.A d.ats.l.length d.ats.c)
attribute [local go_sem ↓] CF
theorem ya(t:Tm)(d:Dv)(w:World)(hp:t.value.size<=4611686018427387904)(hd:VF d)(h:EY w w.heap.size d):
 Calls prog 92 #[qe t,zY d] w fun e w'=>e=.returned (.bool (Yn t d))/\Below w.heap.size w w':=by
 obtain⟨ky,nmm,op,vl⟩:=t;dsimp only at hp;have hO:=fun W=>Tp (⟨ky,nmm,op,vl⟩:Tm) W;rw[Ta]at hO;have HO:=za hO;have HHo:=za (fun v (hv:v.size<=4611686018427387904) W=>yB (⟨ky,nmm,op,vl⟩:Tm) v W hp hv);have HF4:Hid (∀W,Below w.heap.size w W->Calls prog 186 #[qe (⟨ky,nmm,op,vl⟩:Tm),zY d] W fun e w'=>e=.returned (.string (qF d.ats.l (L nmm)))/\Below W.heap.size W w'):=za fun W hW=>za3 (⟨ky,nmm,op,vl⟩:Tm) d W hd ((h.keep hW).up hW.size);have HD:=za hd;have HOa:=za (zbt hd.ats (L nmm));have h1c:=zah (⟨ky,nmm,op,vl⟩:Tm);clear hO hd h hp;obtain⟨w1,hw1⟩:∃w1,(w.alloc (.cells #[.int .i64 ky,.string nmm,.int .i64 op,.string vl] 52)).alloc (.cells #[.int .i64 d.ix,.int .i64 d.pa,.string d.nam,.string d.og,.string d.sb,.string d.dr,.string d.al,.int .i64 d.kd,.int .i64 d.nb,.slice d.ats.A d.ats.l.length d.ats.c] 43)=w1:=⟨_,rfl⟩;have hT:w1.heap[w.heap.size]? =some (.cells #[.int .i64 ky,.string nmm,.int .i64 op,.string vl] 52):=JN;have hD:w1.heap[w.heap.size+1]? =some (.cells #[.int .i64 d.ix,.int .i64 d.pa,.string d.nam,.string d.og,.string d.sb,.string d.dr,.string d.al,.int .i64 d.kd,.int .i64 d.nb,.slice d.ats.A d.ats.l.length d.ats.c] 43):=by rw[<-hw1];have:=heap_alloc_new (w.alloc (.cells #[.int .i64 ky,.string nmm,.int .i64 op,.string vl] 52)) (.cells #[.int .i64 d.ix,.int .i64 d.pa,.string d.nam,.string d.og,.string d.sb,.string d.dr,.string d.al,.int .i64 d.kd,.int .i64 d.nb,.slice d.ats.A d.ats.l.length d.ats.c] 43);simpa using this
 have HSx:Hid (∀W,Below w1.heap.size w1 W->Tj w.heap.size ky nmm op vl d W):=za fun W hW=>by
  have h1:=(hW.block _ (zh hT)).trans hT;have h2:=(hW.block _ (zh hD)).trans hD;exact⟨zd h1 rfl,zd h1 rfl,zd h1 rfl,zd h1 rfl,zd h2 rfl,zd h2 rfl,zd h2 rfl,zd h2 rfl,zd h2 rfl,zd h2 rfl,zd h2 rfl,zd h2 rfl,zd h2 rfl,zd h2 rfl⟩
 have HB1:Hid (Below w.heap.size w w1):=za IQ;have HSz:Hid (w1.heap.size=w.heap.size+2):=za YJ;have HW1:=za hw1;clear hw1 hT hD;have HCS:=za (show(Yn (⟨ky,nmm,op,vl⟩:Tm) d=false/\Ub (⟨ky,nmm,op,vl⟩:Tm)=.nilFunc)∨∃F v,v.size<=4611686018427387904/\Yn (⟨ky,nmm,op,vl⟩:Tm) d=YQ (⟨ky,nmm,op,vl⟩:Tm) v/\Ub (⟨ky,nmm,op,vl⟩:Tm)=.func (.func F) #[] #[]/\(∀args w,(callFunc F args).run prog w=.ok (.enter F args) w)/\∀W,Below w.heap.size w W->Calls prog F #[qe (⟨ky,nmm,op,vl⟩:Tm),zY d] W fun e w'=>e=.returned (.string v)/\Below W.heap.size W w' by
  by_cases hno:Z4 (⟨ky,nmm,op,vl⟩:Tm)=false/\qO (⟨ky,nmm,op,vl⟩:Tm)=false
  · exact .inl ⟨zgu hno.1 hno.2,zhc hno.1 hno.2⟩
  have hm:qA op=true:=by
   cases hm:qA op with
   |true=>rfl
   |false=>exact absurd ⟨by unfold Z4;rw[hm];rfl,by unfold qO;rw[hm];rfl⟩ hno
  have hk:ky=2∨ky=3∨ky=4∨ky=5∨ky=8∨ky=9∨ky=10∨ky=11:=by
   refine Classical.byContradiction fun h=>hno ⟨?_,?_⟩
   · unfold Z4;rw[hm];simp;omega
   · unfold qO;rw[hm];simp;omega
  rcases hk with rfl|rfl|rfl|rfl|rfl|rfl|rfl|rfl<;>first
   |exact .inr ⟨_,_,HD.out.og,MH hm _ rfl,IJ hm rfl,enters_of func183 zg rfl,fun W _=>zcN _ d W⟩
   |exact .inr ⟨_,_,HD.out.sb,MH hm _ rfl,IJ hm rfl,enters_of func184 zg rfl,fun W _=>By _ d W⟩
   |exact .inr ⟨_,_,HD.out.dr,MH hm _ rfl,IJ hm rfl,enters_of func185 zg rfl,fun W _=>zhN _ d W⟩
   |exact .inr ⟨_,_,HOa.out,MH hm _ rfl,IJ hm rfl,enters_of func186 zg rfl,HF4.out⟩)
 have HLo:=za (zej (Z4 (⟨ky,nmm,op,vl⟩:Tm)) (qO (⟨ky,nmm,op,vl⟩:Tm)) h1c);generalize Yn (⟨ky,nmm,op,vl⟩:Tm) d=rb at*;generalize Ub (⟨ky,nmm,op,vl⟩:Tm)=V at*;generalize Z4 (⟨ky,nmm,op,vl⟩:Tm)=bs at*;generalize qO (⟨ky,nmm,op,vl⟩:Tm)=bu at*;clear HF4 HD HOa;unfold qe zY at*;dsimp only at*;go_enter func92,ntmps92;go_upto_region 1 with fail
 rw[HW1.out];obtain⟨c0,c1,c2,c3,c4,c5,c6,c7,c8,c9,c10,c11,c12,c13⟩:=HSx.out w1 zk;go_upto_region 2 with(go_at_call 116;refine(HO.out _).mono ?_;rintro e w2 ⟨rfl,hb2⟩;have HB2:=za hb2;have hst:=J4 (w:=w2.alloc (.cells Xq 184)) (cs:=#[.bool bs,.bool bu,V]) (heap_alloc_new w2 _) rfl rfl HLo.out;clear hb2)
 clear hst;obtain⟨w3,hw3⟩:∃w3,(w2.alloc (.cells Xq 184)).setRow w2.heap.size #[.bool bs,.bool bu,V]=w3:=⟨_,rfl⟩;have HB3:Hid (Below w2.heap.size w2 w3):=za (by rw[<-hw3];exact F7 zw zo);have hf3:w3.heap[w2.heap.size]? =some (.cells #[.bool bs,.bool bu,V] 184 (0,0)):=by rw[<-hw3];exact setRow_heap _ _ _ _ _ _ (heap_alloc_new w2 _)
 have HSf:Hid (∀W,Below w3.heap.size w3 W->W.cell? ⟨w2.heap.size,2,none⟩=some (V)):=za fun W hW=>zd ((hW.block _ (zh hf3)).trans hf3) rfl;have HBw:Hid (Below w1.heap.size w1 w3):=za (bt HB2.out HB3.out);rw[hw3];have HW3:=za hw3;clear hw3 hf3;obtain⟨d0,d1,d2,d3,d4,d5,d6,d7,d8,d9,d10,d11,d12,d13⟩:=HSx.out w3 HBw.out;have g2:=HSf.out w3 zk;rcases HCS.out with⟨rfl,rfl⟩|⟨F,v,hz,rfl,rfl,eg,hF⟩
 · have hnq:=zjl;go_quiet (fail)
   go_wp2;go_ret;exact⟨ZD rfl,ZC (bt HB1.out HBw.out) _⟩
 have hnq:=zeB F;have HHv:=za (HHo.out v hz);have HF:=za hF;generalize hhb:YQ (⟨ky,nmm,op,vl⟩:Tm) v=hb at*;have HHb:=za hhb;clear HHo hF hhb;have HSa:Hid (∀W,Below w3.heap.size w3 W->W.cell? ⟨w2.heap.size,2,none⟩=some (.func (.func F) #[] #[])/\Tj w.heap.size ky nmm op vl d W):=za fun W hW=>⟨HSf.out W hW,HSx.out W (bt HBw.out hW)⟩
 go_region_held3 (fun W'=>W'.cell? ⟨w2.heap.size,2,none⟩=some (.func (.func F) #[] #[])/\Tj w.heap.size ky nmm op vl d W') ((refine HSa.out _ ?_;first|exact J0 zk|exact hB5|exact hB4)) ((first
  |(go_at_call 117;refine(HHv.out _).mono ?_;rintro e w5 ⟨rfl,hb5⟩;(have hB5:Below w3.heap.size w3 w5:=bt hB4 hb5))
  |(refine(HF.out _ (bt HB1.out (bt HBw.out (J0 zk)))).mono ?_;rintro e w4 ⟨rfl,hb4⟩;(have hB4:Below w3.heap.size w3 w4:=bt (J0 zk) hb4))))
 all_goals
  go_wp2;go_ret;exact⟨ZD HHb.out.symm,bt HB1.out (bt HBw.out hB5)⟩
end
end Go.Proofs.YtecbmndgpepkcaaGreatDoor

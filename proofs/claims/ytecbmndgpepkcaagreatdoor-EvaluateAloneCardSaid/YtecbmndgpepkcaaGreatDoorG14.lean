/- Contracts that the law rests on, each under the premises that it names. -/
import Derived.Test.YtecbmndgpepkcaaGreatDoorG13
namespace Go.Proofs.YtecbmndgpepkcaaGreatDoor
open Tryz
set_option maxHeartbeats 8000000
set_option maxRecDepth 100000
section
open Go.RowKit
abbrev Kf(k:Int):Value:=if k=2∨k=8 then .func (.func 183) #[] #[]else if k=3∨k=9 then .func (.func 184) #[] #[]else if k=4∨k=10 then .func (.func 185) #[] #[]else if k=5∨k=11 then .func (.func 186) #[] #[]else .nilFunc
def UZ(k:Int):Array Value:=#[.bool (k==2||k==3||k==4||k==5),.bool (k==8||k==9||k==10||k==11),Kf k]
def kB:Array Value:=#[.bool false,.bool false,.nilFunc,.bool false,.bool false,.nilFunc,
 .bool true,.bool false,.func (.func 183) #[] #[],.bool true,.bool false,.func (.func 184) #[] #[],.bool true,.bool false,.func (.func 185) #[] #[],.bool true,.bool false,.func (.func 186) #[] #[],
 .bool false,.bool false,.nilFunc,.bool false,.bool false,.nilFunc,
 .bool false,.bool true,.func (.func 183) #[] #[],.bool false,.bool true,.func (.func 184) #[] #[],.bool false,.bool true,.func (.func 185) #[] #[],.bool false,.bool true,.func (.func 186) #[] #[],
 .bool false,.bool false,.nilFunc,.bool false,.bool false,.nilFunc,.bool false,.bool false,.nilFunc,.bool false,.bool false,.nilFunc,.bool false,.bool false,.nilFunc,.bool false,.bool false,.nilFunc,.bool false,.bool false,.nilFunc,.bool false,.bool false,.nilFunc,.bool false,.bool false,.nilFunc,.bool false,.bool false,.nilFunc,.bool false,.bool false,.nilFunc,.bool false,.bool false,.nilFunc,.bool false,.bool false,.nilFunc]
theorem yZ:kB.size=75:=rfl
theorem zgj:kB.all (·.oneCell')=true:=zg
theorem SV:(prog.info? 214).map (·.size)=some 75:=zg
theorem OG:(prog.info? 184).map (·.size)=some 3:=zg
theorem zib:zeroCells214.size=75:=zg
theorem zgi:prog.built 214 [(2,.agg #[.bool true,.bool false,.func (.func 183) #[] #[]]),(3,.agg #[.bool true,.bool false,.func (.func 184) #[] #[]]),(4,.agg #[.bool true,.bool false,.func (.func 185) #[] #[]]),(5,.agg #[.bool true,.bool false,.func (.func 186) #[] #[]]),(8,.agg #[.bool false,.bool true,.func (.func 183) #[] #[]]),(9,.agg #[.bool false,.bool true,.func (.func 184) #[] #[]]),(10,.agg #[.bool false,.bool true,.func (.func 185) #[] #[]]),(11,.agg #[.bool false,.bool true,.func (.func 186) #[] #[]])]=some kB:=by
 kernel_rfl
noncomputable def M9(parts:Array (Nat×Value)):Sem Value:=Instr.build 214 parts
theorem zdg(parts:Array (Nat×Value)):Instr.build 214 parts=M9 parts:=rfl
theorem zaL(w:World):(M9 #[(2,.agg #[.bool true,.bool false,.func (.func 183) #[] #[]]),(3,.agg #[.bool true,.bool false,.func (.func 184) #[] #[]]),(4,.agg #[.bool true,.bool false,.func (.func 185) #[] #[]]),(5,.agg #[.bool true,.bool false,.func (.func 186) #[] #[]]),(8,.agg #[.bool false,.bool true,.func (.func 183) #[] #[]]),(9,.agg #[.bool false,.bool true,.func (.func 184) #[] #[]]),(10,.agg #[.bool false,.bool true,.func (.func 185) #[] #[]]),(11,.agg #[.bool false,.bool true,.func (.func 186) #[] #[]])]).run prog w=.ok (.agg kB) w:=by
 unfold M9;exact run_build w _ _ _ zgi
attribute [irreducible] M9
noncomputable def MX(v u:Value):Sem Unit:=Instr.storeAt 214 v u
theorem zbx(v u:Value):Instr.storeAt 214 v u=MX v u:=rfl
theorem zhI{w:World}{g:Nat}{old cs:Array Value}{t:TypeId}(h:w.heap[g]? =some (.cells old t (0,0)))(ho:old.size=75)(hs:cs.size=75)(h1:cs.all (·.oneCell')=true):(MX (.pointer (some ⟨g,0,none⟩)) (.agg cs)).run prog w=.ok () (w.setRow g cs):=by
 unfold MX;simp only[Instr.storeAt,Instr.sureAddr,Sem.run_bind,Sem.run_pure,Result.andThen_ok];exact run_storeVar_row w g t 214 old cs h (by rw[hs];exact SV) Mi h1
attribute [irreducible] MX kB
attribute [local go_sem ↓] zdg zbx
theorem zii(w:World):Calls prog 149 #[] w fun e w'=>e=.returned (.agg kB)/\Below w.heap.size w w':=by
 have hbd:=zaL;have hst:=zhI (w:=w.alloc (.cells zeroCells214 214)) (cs:=kB) (i5 w _) zib yZ zgj;go_enter func149,ntmps149;go_wp2;refine Yx rfl zk (i5 w _) underlying214 rfl (by rw[yZ];exact SV) zk ?_;exact⟨rfl,(zL w _).grown (qR _ _ _) zl (fun j e=>Vb)⟩
end
section
open Go.RowKit
abbrev XD:Array Value:=#[.bool false,.bool false,.nilFunc]
def JV(t:Tm):Array Value:=if qH t.op then UZ t.key else XD
theorem Ry:XD.all (·.oneCell')=true:=zg
theorem zia(k:Int):(UZ k).all (·.oneCell')=true:=by
 have hf:(Kf k).oneCell'=true:=by
  unfold Kf
  repeat (split;· rfl)
  rfl
 rw[Array.all_eq_true_iff_forall_mem];intro u hu;simp only[UZ,List.mem_toArray,List.mem_cons,List.not_mem_nil,or_false]at hu;rcases hu with rfl|rfl|rfl
 · rfl
 · rfl
 · exact hf
theorem zgv{k:Int}(h:k<0∨24<k):UZ k=XD:=by
 unfold UZ Kf XD;rw[if_neg zb,if_neg zb,if_neg zb,if_neg zb];have e:∀n:Int,0<=n->n<=24->(k==n)=false:=fun n h1 h2=>zK;rw[e 2 zb zb,e 3 zb zb,e 4 zb zb,e 5 zb zb,e 8 zb zb,e 9 zb zb,e 10 zb zb,e 11 zb zb];rfl
def je(k:Int):Array Value:=kB.extract (3*k.toNat) (3*k.toNat+3)
theorem BK:(List.range 25).map (fun n:Nat=>je n)=(List.range 25).map (fun n:Nat=>UZ n):=zg
theorem zfz{k:Int}(h1:0<=k)(h2:k<=24):je k=UZ k:=by
 obtain⟨n,rfl⟩:=Int.eq_ofNat_of_zero_le h1;exact List.map_inj_left.1 BK n (List.mem_range.2 zb)
theorem zdL{k:Int}(h1:0<=k)(h2:k<=24)(W:World):(Instr.index 214 (.agg kB) (.int .i64 k)).run prog W=.ok (.agg (UZ k)) W:=by
 have hb:0<=k/\k<25:=⟨zb,zb⟩;rw[<-zfz h1 h2];simp[Instr.index,asIntOf,run_underlying underlying214,hb,part,isAgg184,sizeOf184,je,Nat.mul_comm]
noncomputable def Nr(v u:Value):Sem Unit:=Instr.storeAt 184 v u
theorem LJ(v u:Value):Instr.storeAt 184 v u=Nr v u:=rfl
theorem Is{w:World}{g:Nat}{old cs:Array Value}{t:TypeId}(h:w.heap[g]? =some (.cells old t (0,0)))(ho:old.size=3)(hs:cs.size=3)(h1:cs.all (·.oneCell')=true):(Nr (.pointer (some ⟨g,0,none⟩)) (.agg cs)).run prog w=.ok () (w.setRow g cs):=by
 unfold Nr;simp only[Instr.storeAt,Instr.sureAddr,Sem.run_bind,Sem.run_pure,Result.andThen_ok];exact run_storeVar_row w g t 184 old cs h (by rw[hs];exact OG) Mi h1
attribute [irreducible] Nr
theorem FB{w W:World}(h:Below w.heap.size w W):Below w.heap.size w W.drew:=h.drew
theorem SI{w W:World}{g:Nat}{cs:Array Value}(h:Below w.heap.size w W)(hg:w.heap.size<=g):Below w.heap.size w (W.setRow g cs):=h.grown (qR _ _ _) h.size (fun j e=>Nn)
attribute [local go_sem ↓] LJ
theorem TT(t:Tm)(w:World):Calls prog 116 #[qk t] w fun e w'=>e=.returned (.agg (JV t))/\Below w.heap.size w w':=by
 obtain⟨w1,hw1⟩:∃w1,(w.alloc (.cells #[.int .i64 t.key,.string t.name,.int .i64 t.op,.string t.value] 52)).alloc (.cells XD 184)=w1:=⟨_,rfl⟩;have hW1:w1.heap[w.heap.size]? =some (.cells #[.int .i64 t.key,.string t.name,.int .i64 t.op,.string t.value] 52 (0,0)):=K7;have hW2:w1.heap[w.heap.size+1]? =some (.cells XD 184 (0,0)):=by rw[<-hw1];have:=i5 (w.alloc (.cells #[.int .i64 t.key,.string t.name,.int .i64 t.op,.string t.value] 52)) (.cells XD 184);simpa using this
 have hB1:Below w.heap.size w w1:=OK;have hM:=T4 t w1;have HEnd:Hid (∀W cs,Below w1.heap.size w1 W->Below w.heap.size w (W.setRow (w.heap.size+1) cs)):=za fun W cs h=>SI (bt hB1 h) zb;have HB1:=za hB1;have HM:=za hM;have HW1:=za hW1;have HW2:=za hW2;have HOf:Hid (JV t=if qH t.op then UZ t.key else XD):=za rfl;obtain⟨⟨c0,c1,c2,c3⟩,_⟩:=JP hW1;clear hB1 hM hW1 hW2;have HSx:Hid (∀W,Below w1.heap.size w1 W->W.cell? ⟨w.heap.size,0,none⟩=some (.int .i64 t.key)/\W.cell? ⟨w.heap.size,1,none⟩=some (.string t.name)/\W.cell? ⟨w.heap.size,2,none⟩=some (.int .i64 t.op)/\W.cell? ⟨w.heap.size,3,none⟩=some (.string t.value)):=za fun W hW=>(JP ((hW.block _ (zh HW1.out)).trans HW1.out)).1;have HSz:w1.heap.size=w.heap.size+2:=YO;unfold qk at HM⊢;cases hm:qH t.op with
 | false=>
   rw[hm]at HM HOf;clear hm;go_enter func116,ntmps116;go_upto_region 1 with fail
   try rw[hw1]
   go_wp2_with (go_at_call 90;refine HM.out.mono ?_;rintro e w2 ⟨rfl,hb2⟩;have hz2:=(hb2.block _ (zh HW2.out)).trans HW2.out;have hst:=Is (cs:=XD) hz2 rfl rfl Ry;have HB2:=za hb2;have HZ2:=za hz2;clear hb2 hz2;obtain⟨d0,d1,d2,d3⟩:=HSx.out w2 HB2.out)
   refine Yx rfl zk HZ2.out underlying184 rfl (by exact OG) zk ?_;exact⟨by rw[HOf.out];rfl,HEnd.out _ _ HB2.out⟩
 | true=>
   rw[hm]at HM HOf;clear hm;by_cases hk:t.key<0∨24<t.key
   · have HE:Hid (JV t=XD):=za (by rw[HOf.out,if_pos rfl,zgv hk]);rcases hk with hk|hk
     · exact Cu
     · have hk0:¬t.key<0:=by omega
       exact Cu
   · have h1:¬t.key<0:=by omega
     have h2:¬24<t.key:=zb;have hix:=fun W=>zdL (k:=t.key) zb zb W;have HE:Hid (JV t=UZ t.key):=za (by rw[HOf.out,if_pos rfl]);clear hk;go_enter func116,ntmps116;go_upto_region 1 with fail
     go_wp2_with (go_at_call 90;refine HM.out.mono ?_;rintro e w2 ⟨rfl,hb2⟩;have hz2:=(hb2.block _ (zh HW2.out)).trans HW2.out;have hst:=Is (cs:=XD) hz2 rfl rfl Ry;have HB2:=za hb2;have HZ2:=za hz2;clear hb2 hz2;obtain⟨d0,d1,d2,d3⟩:=HSx.out w2 HB2.out)
     have HSy:Hid (∀W,Below w2.heap.size w2 W->W.cell? ⟨w.heap.size,0,none⟩=some (.int .i64 t.key)/\∀cs,(W.setRow (w.heap.size+1) cs).cell? ⟨w.heap.size,0,none⟩=some (.int .i64 t.key)):=za fun W hW=>⟨(HSx.out W (bt HB2.out hW)).1,fun cs=>by
      have h3:=(HSx.out W (bt HB2.out hW)).1;rw[World.cell?_of_block (w:=W) (setRow_other W (w.heap.size+1) w.heap.size cs zb)];exact h3⟩
     clear hst
     go_region_held3 (fun W'=>W'.cell? ⟨w.heap.size,0,none⟩=some (.int .i64 t.key)) ((first|exact(HSy.out _ (by first|exact FB zj|exact hB3)).1|exact(HSy.out _ hB3).2 _)) ((go_at_call 149;refine(zii _).mono ?_;rintro e w3 ⟨rfl,hb3⟩;(have hB3:Below w2.heap.size w2 w3:=bt (FB zj) hb3);have hz3:=(hB3.block _ (zh HZ2.out)).trans HZ2.out;have hst3:=Is (cs:=UZ t.key) hz3 rfl rfl (zia _)))
     all_goals
      go_wp2;refine Yx rfl zk hz3 underlying184 rfl (by exact OG) zk ?_;exact⟨by rw[HE.out],HEnd.out _ _ (bt HB2.out hB3)⟩
def Ub(t:Tm):Value:=if qH t.op then Kf t.key else .nilFunc
theorem R1(t:Tm):JV t=#[.bool (Z0 t),.bool (qT t),Ub t]:=by
 unfold JV Z0 qT Ub;cases qH t.op<;>rfl
theorem ziP(b u:Bool)(f:Value)(w:World):(Instr.field 184 (.agg #[.bool b,.bool u,f]) 0).run prog w=.ok (.bool b) w:=zg
theorem zb9(t:Tm)(w:World):Calls prog 91 #[qk t] w fun e w'=>e=.returned (.bool (Z0 t))/\Below w.heap.size w w':=by
 have hO:=TT t (w.alloc (.cells #[.int .i64 t.key,.string t.name,.int .i64 t.op,.string t.value] 52));rw[R1]at hO;have HO:=za hO;clear hO;unfold qk at HO⊢;generalize Z0 t=b at*;generalize qT t=u at*;generalize Ub t=f at*;have hfl:=ziP b u f;go_enter func91,ntmps91;exact By
end
section
open Go.RowKit
theorem zdT(w:World):(binOp .neq 182 .nilFunc .nilFunc).run prog w=.ok (.bool false) w:=zg
theorem zkq(n:Nat)(w:World):(binOp .neq 182 (.func (.func n) #[] #[]) .nilFunc).run prog w=.ok (.bool true) w:=zg
theorem vI(t:Tm)(v:ByteArray)(w:World)(hp:t.value.size<=4611686018427387904)(hv:v.size<=4611686018427387904):Calls prog 117 #[qk t,.string v] w fun e w'=>e=.returned (.bool (YN t v))/\Below w.heap.size w w':=by
 have HM:=za (fun W=>MM t.value v W hp hv);have HR:Hid (YN t v=(zS (L t.value) (L v)==(t.op==1))):=za rfl;unfold qk;generalize zS (L t.value) (L v)=b at*;obtain⟨w1,hw1⟩:∃w1,(w.alloc (.cells #[.int .i64 t.key,.string t.name,.int .i64 t.op,.string t.value] 52))=w1:=⟨_,rfl⟩;have HSx:Hid (∀W,Below w1.heap.size w1 W->W.cell? ⟨w.heap.size,2,none⟩=some (.int .i64 t.op)/\W.cell? ⟨w.heap.size,3,none⟩=some (.string t.value)):=za fun W hW=>by
  rw[<-hw1]at hW;obtain⟨_,_,c2,c3⟩:=zcu hW;exact⟨c2,c3⟩
 have HB1:Hid (Below w.heap.size w w1):=za ZX;have HW1:=za hw1;clear hw1;go_enter func117,ntmps117;go_upto_region 1 with fail
 rw[HW1.out];obtain⟨c2,c3⟩:=HSx.out w1 zj
 go_region_held3 (fun W'=>W'.cell? ⟨w.heap.size,2,none⟩=some (.int .i64 t.op)/\W'.cell? ⟨w.heap.size,3,none⟩=some (.string t.value)) ((refine HSx.out _ ?_;first|exact GC zj|exact hB2)) ((go_at_call 127;refine(HM.out _).mono ?_;rintro e w2 ⟨rfl,hb2⟩;(have hB2:Below w1.heap.size w1 w2:=bt (GC zj) hb2)))
 all_goals
  go_wp2;go_ret;exact⟨ZP (by rw[HR.out]),bt HB1.out hB2⟩
theorem zbH(t:Tm)(d:Dv)(w:World):Calls prog 183 #[qk t,zY d] w fun e w'=>e=.returned (.string d.og)/\Below w.heap.size w w':=by
 unfold qk zY;go_enter func183,ntmps183;exact R8
theorem zbL(t:Tm)(d:Dv)(w:World):Calls prog 184 #[qk t,zY d] w fun e w'=>e=.returned (.string d.sb)/\Below w.heap.size w w':=by
 unfold qk zY;go_enter func184,ntmps184;exact R8
theorem zdK(t:Tm)(d:Dv)(w:World):Calls prog 185 #[qk t,zY d] w fun e w'=>e=.returned (.string d.dr)/\Below w.heap.size w w':=by
 unfold qk zY;go_enter func185,ntmps185;exact R8
theorem BY(t:Tm)(d:Dv)(w:World)(hd:VJ d)(h:LU w w.heap.size d):Calls prog 186 #[qk t,zY d] w fun e w'=>e=.returned (.string (qQ d.ats.l (L t.name)))/\Below w.heap.size w w':=by
 have hgv:=Lx d.ats.l (L t.name);have HGe:Hid (∀W,Below w.heap.size w W->Calls prog 33 #[.slice d.ats.A d.ats.l.length d.ats.c,.string t.name] W (VB (zX d.ats.l (L t.name)) W)):=za fun W hW=>KR d.ats.A d.ats.c d.ats.l t.name W ((h.keep hW).up hW.size) hd.len;unfold VB at HGe;rw[hgv]at HGe;clear hgv hd h;generalize qQ d.ats.l (L t.name)=av at*;generalize (zX d.ats.l (L t.name)).isSome=ab at*;unfold qk zY;go_enter func186,ntmps186;go_wp2_with (go_at_call 33;refine(HGe.out _ (bt zu zu)).mono ?_;rintro e w4 ⟨rfl,hb4⟩;have HB4:=za hb4;clear hb4)
 go_ret;exact⟨rfl,bt (bt zu zu) HB4.out⟩
theorem zaC{t:Tm}(h:Z0 t=false)(h2:qT t=false):Ub t=.nilFunc:=by
 unfold Z0 at h;unfold qT at h2;unfold Ub;cases hm:qH t.op with
 |false=>rfl
 | true=>
   rw[hm]at h h2;simp only[Bool.true_and,Bool.or_eq_false_iff,beq_eq_false_iff_ne]at h h2;rw[if_pos rfl,Kf,if_neg zb,if_neg zb,if_neg zb,if_neg zb]
theorem Nq{t:Tm}(hm:qH t.op=true){v:Value}(h:Kf t.key=v):Ub t=v:=by unfold Ub;rw[hm,if_pos rfl,h]
theorem zij(b u:Bool){f:Value}(h:f.oneCell'=true):(#[.bool b,.bool u,f]:Array Value).all (·.oneCell')=true:=by
 rw[Array.all_eq_true_iff_forall_mem];intro x hx;simp only[List.mem_toArray,List.mem_cons,List.not_mem_nil,or_false]at hx;rcases hx with rfl|rfl|rfl
 · rfl
 · rfl
 · exact h
theorem zgX(t:Tm):(Ub t).oneCell'=true:=by
 unfold Ub Kf
 repeat (split;· rfl)
 split
 · repeat (split;· rfl)
   rfl
 · rfl
abbrev Pk(a:Nat)(ky:Int)(nmm:ByteArray)(op:Int)(vl:ByteArray)(d:Dv)(W:World):Prop:=W.cell? ⟨a,0,none⟩=some (.int .i64 ky)/\W.cell? ⟨a,1,none⟩=some (.string nmm)/\W.cell? ⟨a,2,none⟩=some (.int .i64 op)/\W.cell? ⟨a,3,none⟩=some (.string vl)/\W.cell? ⟨a+1,0,none⟩=some (.int .i64 d.ix)/\W.cell? ⟨a+1,1,none⟩=some (.int .i64 d.pa)/\W.cell? ⟨a+1,2,none⟩=some (.string d.nam)/\W.cell? ⟨a+1,3,none⟩=some (.string d.og)/\W.cell? ⟨a+1,4,none⟩=some (.string d.sb)/\W.cell? ⟨a+1,5,none⟩=some (.string d.dr)/\W.cell? ⟨a+1,6,none⟩=some (.string d.al)/\W.cell? ⟨a+1,7,none⟩=some (.int .i64 d.kd)/\W.cell? ⟨a+1,8,none⟩=some (.int .i64 d.nb)/\W.cell? ⟨a+1,9,none⟩=some (.slice d.ats.A d.ats.l.length d.ats.c)
attribute [local go_sem ↓] LJ
theorem FI(t:Tm)(d:Dv)(w:World)(hp:t.value.size<=4611686018427387904)(hd:VJ d)(h:LU w w.heap.size d):
 Calls prog 92 #[qk t,zY d] w fun e w'=>e=.returned (.bool (YK t d))/\Below w.heap.size w w':=by
 obtain⟨ky,nmm,op,vl⟩:=t;dsimp only at hp;have hO:=fun W=>TT (⟨ky,nmm,op,vl⟩:Tm) W;rw[R1]at hO;have HO:=za hO;have HHo:=za (fun v (hv:v.size<=4611686018427387904) W=>vI (⟨ky,nmm,op,vl⟩:Tm) v W hp hv);have HF4:Hid (∀W,Below w.heap.size w W->Calls prog 186 #[qk (⟨ky,nmm,op,vl⟩:Tm),zY d] W fun e w'=>e=.returned (.string (qQ d.ats.l (L nmm)))/\Below W.heap.size W w'):=za fun W hW=>BY (⟨ky,nmm,op,vl⟩:Tm) d W hd ((h.keep hW).up hW.size);have HD:=za hd;have HOa:=za (zdP hd.ats (L nmm));have h1c:=zgX (⟨ky,nmm,op,vl⟩:Tm);clear hO hd h hp;obtain⟨w1,hw1⟩:∃w1,(w.alloc (.cells #[.int .i64 ky,.string nmm,.int .i64 op,.string vl] 52)).alloc (.cells #[.int .i64 d.ix,.int .i64 d.pa,.string d.nam,.string d.og,.string d.sb,.string d.dr,.string d.al,.int .i64 d.kd,.int .i64 d.nb,.slice d.ats.A d.ats.l.length d.ats.c] 43)=w1:=⟨_,rfl⟩;have hT:w1.heap[w.heap.size]? =some (.cells #[.int .i64 ky,.string nmm,.int .i64 op,.string vl] 52):=K7;have hD:w1.heap[w.heap.size+1]? =some (.cells #[.int .i64 d.ix,.int .i64 d.pa,.string d.nam,.string d.og,.string d.sb,.string d.dr,.string d.al,.int .i64 d.kd,.int .i64 d.nb,.slice d.ats.A d.ats.l.length d.ats.c] 43):=by rw[<-hw1];have:=i5 (w.alloc (.cells #[.int .i64 ky,.string nmm,.int .i64 op,.string vl] 52)) (.cells #[.int .i64 d.ix,.int .i64 d.pa,.string d.nam,.string d.og,.string d.sb,.string d.dr,.string d.al,.int .i64 d.kd,.int .i64 d.nb,.slice d.ats.A d.ats.l.length d.ats.c] 43);simpa using this
 have HSx:Hid (∀W,Below w1.heap.size w1 W->Pk w.heap.size ky nmm op vl d W):=za fun W hW=>by
  have h1:=(hW.block _ (zh hT)).trans hT;have h2:=(hW.block _ (zh hD)).trans hD;exact⟨zd h1 rfl,zd h1 rfl,zd h1 rfl,zd h1 rfl,zd h2 rfl,zd h2 rfl,zd h2 rfl,zd h2 rfl,zd h2 rfl,zd h2 rfl,zd h2 rfl,zd h2 rfl,zd h2 rfl,zd h2 rfl⟩
 have HB1:Hid (Below w.heap.size w w1):=za OK;have HSz:Hid (w1.heap.size=w.heap.size+2):=za YO;have HW1:=za hw1;clear hw1 hT hD;have HCS:=za (show(YK (⟨ky,nmm,op,vl⟩:Tm) d=false/\Ub (⟨ky,nmm,op,vl⟩:Tm)=.nilFunc)∨∃F v,v.size<=4611686018427387904/\YK (⟨ky,nmm,op,vl⟩:Tm) d=YN (⟨ky,nmm,op,vl⟩:Tm) v/\Ub (⟨ky,nmm,op,vl⟩:Tm)=.func (.func F) #[] #[]/\(∀args w,(callFunc F args).run prog w=.ok (.enter F args) w)/\∀W,Below w.heap.size w W->Calls prog F #[qk (⟨ky,nmm,op,vl⟩:Tm),zY d] W fun e w'=>e=.returned (.string v)/\Below W.heap.size W w' by
  by_cases hno:Z0 (⟨ky,nmm,op,vl⟩:Tm)=false/\qT (⟨ky,nmm,op,vl⟩:Tm)=false
  · exact .inl ⟨zan hno.1 hno.2,zaC hno.1 hno.2⟩
  have hm:qH op=true:=by
   cases hm:qH op with
   |true=>rfl
   |false=>exact absurd ⟨by unfold Z0;rw[hm];rfl,by unfold qT;rw[hm];rfl⟩ hno
  have hk:ky=2∨ky=3∨ky=4∨ky=5∨ky=8∨ky=9∨ky=10∨ky=11:=by
   refine Classical.byContradiction fun h=>hno ⟨?_,?_⟩
   · unfold Z0;rw[hm];simp;omega
   · unfold qT;rw[hm];simp;omega
  rcases hk with rfl|rfl|rfl|rfl|rfl|rfl|rfl|rfl<;>first
   |exact .inr ⟨_,_,HD.out.og,Ou hm _ rfl,Nq hm rfl,enters_of func183 zg rfl,fun W _=>zbH _ d W⟩
   |exact .inr ⟨_,_,HD.out.sb,Ou hm _ rfl,Nq hm rfl,enters_of func184 zg rfl,fun W _=>zbL _ d W⟩
   |exact .inr ⟨_,_,HD.out.dr,Ou hm _ rfl,Nq hm rfl,enters_of func185 zg rfl,fun W _=>zdK _ d W⟩
   |exact .inr ⟨_,_,HOa.out,Ou hm _ rfl,Nq hm rfl,enters_of func186 zg rfl,HF4.out⟩)
 have HLo:=za (zij (Z0 (⟨ky,nmm,op,vl⟩:Tm)) (qT (⟨ky,nmm,op,vl⟩:Tm)) h1c);generalize YK (⟨ky,nmm,op,vl⟩:Tm) d=rb at*;generalize Ub (⟨ky,nmm,op,vl⟩:Tm)=V at*;generalize Z0 (⟨ky,nmm,op,vl⟩:Tm)=bs at*;generalize qT (⟨ky,nmm,op,vl⟩:Tm)=bu at*;clear HF4 HD HOa;unfold qk zY at*;dsimp only at*;go_enter func92,ntmps92;go_upto_region 1 with fail
 rw[HW1.out];obtain⟨c0,c1,c2,c3,c4,c5,c6,c7,c8,c9,c10,c11,c12,c13⟩:=HSx.out w1 zj;go_upto_region 2 with(go_at_call 116;refine(HO.out _).mono ?_;rintro e w2 ⟨rfl,hb2⟩;have HB2:=za hb2;have hst:=Is (w:=w2.alloc (.cells XD 184)) (cs:=#[.bool bs,.bool bu,V]) (i5 w2 _) rfl rfl HLo.out;clear hb2)
 clear hst;obtain⟨w3,hw3⟩:∃w3,(w2.alloc (.cells XD 184)).setRow w2.heap.size #[.bool bs,.bool bu,V]=w3:=⟨_,rfl⟩;have HB3:Hid (Below w2.heap.size w2 w3):=za (by rw[<-hw3];exact SI zu zo);have hf3:w3.heap[w2.heap.size]? =some (.cells #[.bool bs,.bool bu,V] 184 (0,0)):=by rw[<-hw3];exact setRow_heap _ _ _ _ _ _ (i5 w2 _)
 have HSf:Hid (∀W,Below w3.heap.size w3 W->W.cell? ⟨w2.heap.size,2,none⟩=some (V)):=za fun W hW=>zd ((hW.block _ (zh hf3)).trans hf3) rfl;have HBw:Hid (Below w1.heap.size w1 w3):=za (bt HB2.out HB3.out);rw[hw3];have HW3:=za hw3;clear hw3 hf3;obtain⟨d0,d1,d2,d3,d4,d5,d6,d7,d8,d9,d10,d11,d12,d13⟩:=HSx.out w3 HBw.out;have g2:=HSf.out w3 zj;rcases HCS.out with⟨rfl,rfl⟩|⟨F,v,hz,rfl,rfl,eg,hF⟩
 · have hnq:=zdT;go_quiet (fail)
   go_wp2;go_ret;exact⟨ZP rfl,ZO (bt HB1.out HBw.out) _⟩
 have hnq:=zkq F;have HHv:=za (HHo.out v hz);have HF:=za hF;generalize hhb:YN (⟨ky,nmm,op,vl⟩:Tm) v=hb at*;have HHb:=za hhb;clear HHo hF hhb;have HSa:Hid (∀W,Below w3.heap.size w3 W->W.cell? ⟨w2.heap.size,2,none⟩=some (.func (.func F) #[] #[])/\Pk w.heap.size ky nmm op vl d W):=za fun W hW=>⟨HSf.out W hW,HSx.out W (bt HBw.out hW)⟩
 go_region_held3 (fun W'=>W'.cell? ⟨w2.heap.size,2,none⟩=some (.func (.func F) #[] #[])/\Pk w.heap.size ky nmm op vl d W') ((refine HSa.out _ ?_;first|exact GC zj|exact hB5|exact hB4)) ((first
  |(go_at_call 117;refine(HHv.out _).mono ?_;rintro e w5 ⟨rfl,hb5⟩;(have hB5:Below w3.heap.size w3 w5:=bt hB4 hb5))
  |(refine(HF.out _ (bt HB1.out (bt HBw.out (GC zj)))).mono ?_;rintro e w4 ⟨rfl,hb4⟩;(have hB4:Below w3.heap.size w3 w4:=bt (GC zj) hb4))))
 all_goals
  go_wp2;go_ret;exact⟨ZP HHb.out.symm,bt HB1.out (bt HBw.out hB5)⟩
end
end Go.Proofs.YtecbmndgpepkcaaGreatDoor

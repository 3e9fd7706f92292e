/- Contracts that the law rests on, each under the premises that it names. -/
import Derived.Test.YtecbmndgpepkcaaGreatDoorHpF
import Derived.Test.YtecbmndgpepkcaaGreatDoorHpG
import Derived.Test.YtecbmndgpepkcaaGreatDoorHpH
import Derived.Test.YtecbmndgpepkcaaGreatDoorG14
namespace Go.Proofs.YtecbmndgpepkcaaGreatDoor
open Tryz
set_option maxHeartbeats 8000000
set_option maxRecDepth 100000
section
open Go.RowKit Go.Shelf
theorem Fs(y:Ls Hp)(lim calls:Int)(cmd:ByteArray)(w:World)(hy:zB 4 QE w y)(hl:y.l.length<=1000)(hc:∀x∈y.l,x.cmd.size<=1000000)(hs:cmd.size<=1000000)
 (hno:¬16<=calls->y.l.find? (fun x=>zS (L x.cmd) (L cmd))=none):
 Calls prog 120 #[.slice y.A y.l.length y.c,.int .i64 lim,.int .i64 calls,.string cmd] w fun e w'=>e=.returned (.tuple #[.string (Zh y.l lim calls cmd).1,.int .i64 (Zh y.l lim calls cmd).2.1,.int .i64 (Zh y.l lim calls cmd).2.2])/\Below w.heap.size w w':=by
 have hmf:∀(fn:Fn) (first cap:Array Value) (w:World),(Instr.makeFunc fn first cap).run prog w=.ok (.func fn first cap) w:=fun _ _ _ _=>rfl;obtain⟨w1,hw1⟩:∃w1,((w.alloc (.cells #[.string cmd] 9)).alloc (.cells #[.string ⟨#[]⟩] 9)).alloc (.cells #[.int .i64 0] 39)=w1:=⟨_,rfl⟩;obtain⟨hs1,k0,k1,k2,hb1⟩:=Ka w (.cells #[.string cmd] 9) (.cells #[.string ⟨#[]⟩] 9) (.cells #[.int .i64 0] 39);rw[hw1]at hs1 k0 k1 k2 hb1;have HI:=za (Mc cmd w.heap.size y w1 (hy.keep hb1) hl hc hs zb (zd k0 rfl));obtain⟨R,hR⟩:∃R,Zh y.l lim calls cmd=R:=⟨_,rfl⟩;rw[hR];have HB1:=za hb1;have HW1:=za hw1;have HK1:=za k1;have HK2:=za k2;have HS1:=za hs1;have HR:=za hR;have HY:=za hy;clear hw1 hs1 k0 k1 k2 hb1 hy hR;have c1:w1.cell? ⟨w.heap.size+1,0,none⟩=some (.string ⟨#[]⟩):=zd HK1.out rfl;have c2:w1.cell? ⟨w.heap.size+2,0,none⟩=some (.int .i64 0):=zd HK2.out rfl;have f1:=qe HK1.out 0;have f2:=qe HK2.out 0;have HEnd:=za (MO R w);by_cases h16:16<=calls
 · have hRe:R=(⟨#[]⟩,0,144):=by rw[<-HR.out];unfold Zh;rw[if_pos h16]
   have HRe:=za hRe;clear hRe
   go_enter_defers func120,ntmps120
   go_upto_region 1 with fail
   rw[HW1.out];go_wp2;refine HEnd.out _ _ 144 0 ⟨#[]⟩ rfl rfl rfl ?_ ?_ ?_ (ZF (ZF HB1.out zb) zb) HRe.out
   · rw[World.cell?_setCell_other _ _ _ _ (fun e=>ZD)];exact World.cell?_setCell_same _ _ _ c1
   · rw[World.frozen?_setCell,World.frozen?_setCell];exact f1
   · exact World.cell?_setCell_same _ _ _ ((World.cell?_setCell_other _ _ _ _ (fun e=>ZD)).trans c2)
 · have hpre:R=match y.l.find? (fun x=>zS (L x.cmd) (L cmd))with
    |none=>(⟨#[]⟩,0,143)
    |some x=>if lim<x.ticks then(⟨#[]⟩,lim,142)else if x.fails then(⟨#[]⟩,x.ticks,141)else(x.out,x.ticks,0):=by
    exact NX
   have UC:=za hpre;clear hpre
   go_enter_defers func120,ntmps120
   go_upto_region 1 with fail
   rw[HW1.out];go_upto_region 5 with(go_at_call 152;refine HI.out.mono ?_;rintro e w2 ⟨h2,hb2⟩;have H2:=za h2;have HB2:=za hb2;rcases h2 with⟨k,hk,rfl,hf⟩|⟨rfl,hf⟩)
   · exact absurd hf (by rw[hno zb];simp)
   · have Ql:=UC.out;rw[hf]at Ql;have HP2:=za Ql;have hcc1:=(HB2.out.block _ (zh HK1.out)).trans HK1.out;have hcc2:=(HB2.out.block _ (zh HK2.out)).trans HK2.out;have d1:w2.cell? ⟨w.heap.size+1,0,none⟩=some (.string ⟨#[]⟩):=zd hcc1 rfl;have d2:w2.cell? ⟨w.heap.size+2,0,none⟩=some (.int .i64 0):=zd hcc2 rfl;have g1:=qe hcc1 0;have g2:=qe hcc2 0;clear Ql hcc1 hcc2 hf c1 c2 f1 f2 hc;go_wp2;refine HEnd.out _ _ 143 0 ⟨#[]⟩ rfl rfl rfl ?_ ?_ ?_ (ZF (ZF (bt HB1.out HB2.out) zb) zb) HP2.out
     · rw[World.cell?_setCell_other _ _ _ _ (fun e=>ZD)];exact World.cell?_setCell_same _ _ _ d1
     · rw[World.frozen?_setCell,World.frozen?_setCell];exact g1
     · exact World.cell?_setCell_same _ _ _ ((World.cell?_setCell_other _ _ _ _ (fun e=>ZD)).trans d2)
end
section
open Go.RowKit Go.Shelf
theorem zgo(y:Ls Hp)(lim calls:Int)(cmd:ByteArray)(w:World)(hy:zB 4 QE w y)(hl:y.l.length<=1000)(hc:∀x∈y.l,x.cmd.size<=1000000)(hs:cmd.size<=1000000):
 Calls prog 120 #[.slice y.A y.l.length y.c,.int .i64 lim,.int .i64 calls,.string cmd] w fun e w'=>e=.returned (.tuple #[.string (Zh y.l lim calls cmd).1,.int .i64 (Zh y.l lim calls cmd).2.1,.int .i64 (Zh y.l lim calls cmd).2.2])/\Below w.heap.size w w':=by
 by_cases h16:16<=calls
 · exact Fs y lim calls cmd w hy hl hc hs (fun h=>absurd h16 h)
 · cases hf:y.l.find? (fun x=>zS (L x.cmd) (L cmd))with
   |none=>exact Fs y lim calls cmd w hy hl hc hs (fun _=>hf)
   | some x0=>
     by_cases ht:lim<x0.ticks
     · exact BO y lim calls cmd w hy hl hc hs h16 x0 hf ht
     · cases hfl:x0.fails with
       |true=>exact zeH y lim calls cmd w hy hl hc hs h16 x0 hf ⟨ht,hfl⟩
       |false=>exact zal y lim calls cmd w hy hl hc hs h16 x0 hf ⟨ht,hfl⟩
end
section
open Go.RowKit
theorem zja(b u:Bool)(f:Value)(w:World):(Instr.field 184 (.agg #[.bool b,.bool u,f]) 1).run prog w=.ok (.bool u) w:=zg
theorem vf(t:Tm)(w:World):Calls prog 93 #[qk t] w fun e w'=>e=.returned (.bool (qT t))/\Below w.heap.size w w':=by
 have hO:=TT t (w.alloc (.cells #[.int .i64 t.key,.string t.name,.int .i64 t.op,.string t.value] 52));rw[R1]at hO;have HO:=za hO;clear hO;unfold qk at HO⊢;generalize Z0 t=b at*;generalize qT t=u at*;generalize Ub t=f at*;have hfl:=zja b u f;go_enter func93,ntmps93;exact By
theorem zcO(v s:ByteArray)(B:Nat)(w:World)(hp:v.size<=4611686018427387904)(hs:s.size<=4611686018427387904)(hc:w.cell? ⟨B,3,none⟩=some (.string v)):
 Calls prog 126 #[.string s,.pointer (some ⟨B,0,none⟩)] w fun e w'=>e=.returned (.bool (zS (L v) (L s)))/\Below w.heap.size w w':=by
 have HM:=za (fun W=>MM v s W hp hs);generalize zS (L v) (L s)=b at*;go_enter func126,ntmps126;go_wp2_with (go_at_call 127;refine(HM.out _).mono ?_;rintro e w2 ⟨rfl,hb2⟩)
 exact OW
structure D4(d:Dr):Prop where
 pl:d.props.length<=1000
 pv:∀x∈d.props,x.val.size<=1000000
 rs:d.res.size<=1000000
 tl:d.tags.length<=1000
 tv:∀s∈d.tags,s.length<=1000000
theorem zaV (t:Tm)(act:ByteArray)(x:Dm)(w:World)(hN:Yg w x)(hz:D4 x.d)(hp:t.value.size<=1000000)(ha:act.size<=1000000):
 Calls prog 97 #[qk t,.string act,.agg (zI x)] w fun e w'=>e=.returned (.bool (JG t act x.d))/\Below w.heap.size w w':=by
 obtain⟨ky,nmm,op,vl⟩:=t;dsimp only at hp;have HM0:=fun W=>T4 (⟨ky,nmm,op,vl⟩:Tm) W;have HHo:=za (fun(v:ByteArray) (hv:v.size<=1000000) W=>vI (⟨ky,nmm,op,vl⟩:Tm) v W QW zb);obtain⟨w1,hw1⟩:∃w1,(w.alloc (.cells #[.int .i64 ky,.string nmm,.int .i64 op,.string vl] 52)).alloc (.cells (zI x) qn)=w1:=⟨_,rfl⟩;have hb1:Below w.heap.size w w1:=OK;have hT:w1.heap[w.heap.size]? =some (.cells #[.int .i64 ky,.string nmm,.int .i64 op,.string vl] 52):=kh;have hD:w1.heap[w.heap.size+1]? =some (.cells (zI x) qn):=by rw[<-hw1];have:=i5 (w.alloc (.cells #[.int .i64 ky,.string nmm,.int .i64 op,.string vl] 52)) (.cells (zI x) qn);simpa using this
 have HSx:Hid (∀W,Below w1.heap.size w1 W->W.cell? ⟨w.heap.size,0,none⟩=some (.int .i64 ky)/\W.cell? ⟨w.heap.size,1,none⟩=some (.string nmm)/\W.cell? ⟨w.heap.size,2,none⟩=some (.int .i64 op)/\W.cell? ⟨w.heap.size,3,none⟩=some (.string vl)/\W.cell? ⟨w.heap.size+1,0,none⟩=some (.slice x.props.A x.props.l.length x.props.c)/\W.cell? ⟨w.heap.size+1,1,none⟩=some (.slice x.tags.A x.tags.l.length x.tags.c)/\W.cell? ⟨w.heap.size+1,10,none⟩=some (.string x.res)):=za fun W hW=>by
  have h1:=(hW.block _ (zh hT)).trans hT;have h2:=(hW.block _ (zh hD)).trans hD;exact⟨zd h1 rfl,zd h1 rfl,zd h1 rfl,zd h1 rfl,zd h2 rfl,zd h2 rfl,zd h2 rfl⟩
 have hN1:=hN.keep hb1;have HG:Hid (∀W,Below w1.heap.size w1 W->Calls prog 33 #[.slice x.props.A x.props.l.length x.props.c,.string nmm] W fun e w'=>e=.returned (.tuple #[.string (qQ x.props.l (L nmm)),.bool (zX x.props.l (L nmm)).isSome])/\Below W.heap.size W w'):=za fun W hW=>by
  have h1:=KR x.props.A x.props.c x.props.l nmm W ((hN1.keep hW).pr.row.row) (by have:=hz.pl;have e:x.d.props=x.props.l:=rfl;rw[e]at this;omega);unfold VB at h1;rw[Lx]at h1;exact h1
 have hav:(qQ x.props.l (L nmm)).size<=1000000:=by
  unfold qQ
  split
  · rename_i y hy;exact hz.pv y (List.mem_of_find?_eq_some hy)
  · exact KP
 have HC:Hid (∀W,Below w1.heap.size w1 W->Calls prog 125 #[.slice x.tags.A x.tags.l.length x.tags.c,.func (.func 126) #[] #[.pointer (some ⟨w.heap.size,0,none⟩)]] W fun e w'=>e=.returned (.bool (x.tags.l.any fun s=>zS (L vl) s))/\Below W.heap.size W w'):=za fun W hW=>by
  have hrow:=(hN1.keep hW).tg.row.row;have e1:cellsOf zD x.tags.l=(x.tags.l.map bs).map Value.string:=by
   generalize x.tags.l=l;exact DY
  have e2:(x.tags.l.map bs).length=x.tags.l.length:=W7 ..;rw[e1,<-e2]at hrow;have hP:Om 126 #[.pointer (some ⟨w.heap.size,0,none⟩)] (fun s=>zS (L vl) (L s)) (x.tags.l.map bs) W:=fun s hs W2 hW2=>by
   obtain⟨s0,hs0,rfl⟩:=List.mem_map.1 hs;have hz1:(bs s0).size<=1000000:=by rw[Zg];exact hz.tv s0 hs0
   exact(zcO vl (bs s0) w.heap.size W2 zb zb (HSx.out W2 (bt hW hW2)).2.2.2.1).mono fun _ _ ⟨h1,h2⟩=>⟨h1,bt hW2 h2⟩
  have h1:=EO 126 #[.pointer (some ⟨w.heap.size,0,none⟩)] (fun _ _=>rfl) (fun s=>zS (L vl) (L s)) x.tags.A x.tags.c (x.tags.l.map bs) W hrow (by rw[e2];have:=hz.tl;have e:x.d.tags=x.tags.l:=rfl;rw[e]at this;omega) hP;rw[e2]at h1;have e3:((x.tags.l.map bs).any fun s=>zS (L vl) (L s))=x.tags.l.any fun s=>zS (L vl) s:=by
   rw[List.any_map];simp only[Function.comp_def,qz]
  rw[e3]at h1;exact h1
 have hrs:=hz.rs;have hE:JG ⟨ky,nmm,op,vl⟩ act x.d=(qH op&&(if ky=1 then YN ⟨ky,nmm,op,vl⟩ act else if ky=6 then YN ⟨ky,nmm,op,vl⟩ (qQ x.props.l (L nmm))else if ky=13 then YN ⟨ky,nmm,op,vl⟩ x.res else if ky=7 then(x.tags.l.any fun s=>zS (L vl) s)==(op==1)else false)):=rfl;rw[hE];have HB1:=za hb1;have HW1:=za hw1;clear hE hw1 hT hD hN1 hb1 hN hz;unfold qk zI at*;dsimp only at HM0;cases hm:qH op with
 | false=>
   simp only[hm]at HM0;rw[Bool.false_and];have HM:=za HM0;clear HM0 hm;go_enter func97,ntmps97;go_upto_region 1 with fail
   rw[HW1.out];obtain⟨c0,c1,c2,c3,d0,d1,d2⟩:=HSx.out w1 zj;go_wp2_with (go_at_call 90;refine(HM.out _).mono ?_;rintro e w2 ⟨rfl,hb2⟩;have HB2:=za hb2;clear hb2)
   exact Oo
 | true=>
   simp only[hm]at HM0;have HM:=za HM0;clear HM0 hm;rw[Bool.true_and];by_cases h1:ky=1
   · subst h1;rw[if_pos rfl];have HH:=za (HHo.out act ha);clear HHo HC HG;generalize YN _ act=b at*;exact Fm
   · rw[if_neg h1];by_cases h6:ky=6
     · subst h6;rw[if_pos rfl];have HH:=za (HHo.out _ hav);clear HHo HC;generalize YN _ (qQ x.props.l (L nmm))=b at*;generalize qQ x.props.l (L nmm)=av at*;go_enter func97,ntmps97;go_upto_region 1 with fail
       rw[HW1.out];obtain⟨c0,c1,c2,c3,d0,d1,d2⟩:=HSx.out w1 zj;go_wp2_with (first|(go_at_call 90;refine(HM.out _).mono ?_;rintro e w2 ⟨rfl,hb2⟩;have HB2:=za hb2;obtain⟨e0,e1,e2,e3,f0,f1,f2⟩:=HSx.out w2 hb2;clear hb2 c0 c1 c2 c3 d0 d1 d2)|(go_at_call 33;refine(HG.out _ HB2.out).mono ?_;rintro e w3 ⟨rfl,hb3⟩;have HB3:=za (bt HB2.out hb3);obtain⟨g0,g1,g2,g3,k0,k1,k2⟩:=HSx.out w3 HB3.out;clear hb3 e0 e1 e2 e3 f0 f1 f2)|(go_at_call 117;refine(HH.out _).mono ?_;rintro e w4 ⟨rfl,hb4⟩))
       go_ret;exact⟨rfl,bt HB1.out (bt HB3.out hb4)⟩
     · rw[if_neg h6];by_cases h13:ky=13
       · subst h13;rw[if_pos rfl];have HH:=za (HHo.out _ hrs);clear HHo HC HG;have er:x.d.res=x.res:=rfl;rw[er]at HH;clear er;generalize YN _ x.res=b at*;exact Fm
       · rw [if_neg h13];by_cases h7:ky=7
         · subst h7;rw[if_pos rfl];clear HHo HG;generalize (x.tags.l.any fun s=>zS (L vl) s)=b at*;go_enter func97,ntmps97;go_upto_region 1 with fail
           rw[HW1.out];obtain⟨c0,c1,c2,c3,d0,d1,d2⟩:=HSx.out w1 zj;go_wp2_with (first|(go_at_call 90;refine(HM.out _).mono ?_;rintro e w2 ⟨rfl,hb2⟩;have HB2:=za hb2;obtain⟨e0,e1,e2,e3,f0,f1,f2⟩:=HSx.out w2 hb2;clear hb2 c0 c1 c2 c3 d0 d1 d2)|(go_at_call 125;refine(HC.out _ HB2.out).mono ?_;rintro e w3 ⟨rfl,hb3⟩;have HB3:=za (bt HB2.out hb3);obtain⟨g0,g1,g2,g3,k0,k1,k2⟩:=HSx.out w3 HB3.out;clear hb3 e0 e1 e2 e3 f0 f1 f2))
           all_goals
            go_ret;exact⟨ZP (by first|rfl|simp[*]),bt HB1.out HB3.out⟩
         · rw[if_neg h7];clear HHo HC HG;go_enter func97,ntmps97;go_upto_region 1 with fail
           rw[HW1.out];obtain⟨c0,c1,c2,c3,d0,d1,d2⟩:=HSx.out w1 zj;go_wp2_with (first|(go_at_call 90;refine(HM.out _).mono ?_;rintro e w2 ⟨rfl,hb2⟩;have HB2:=za hb2;obtain⟨e0,e1,e2,e3,f0,f1,f2⟩:=HSx.out w2 hb2;clear hb2 c0 c1 c2 c3 d0 d1 d2))
           exact Oo
end
end Go.Proofs.YtecbmndgpepkcaaGreatDoor

/- Contracts that the law rests on, each under the premises that it names. -/
import Derived.Test.YtecbmndgpepkcaaGreatDoorG29
namespace Go.Proofs.YtecbmndgpepkcaaGreatDoor
open Tryz
set_option maxHeartbeats 8000000
set_option maxRecDepth 100000
open Go.RowKit
theorem zku(c:zt)(x:Em)(d:Dm):Z5 (qW c x) 0 (zI d).toList=qW c {x with dr:=d}:=zg
theorem ZG.off{B g:Nat}{w:World}{d:Dm}(h:ZG B w d)(hg:g<B):Xn g d.as:=fun a ha p e=>by
 simp only[Dm.as,List.mem_cons,List.not_mem_nil,or_false]at ha;rcases ha with rfl|rfl|rfl|rfl|rfl|rfl
 · have:=(qu h.pr p e).1;omega
 · have:=(qu h.tg p e).1;omega
 · have:=(qu h.lk p e).1;omega
 · have:=(qu h.rn p e).1;omega
 · have:=(qu h.ld p e).1;omega
 · have:=(qu h.cl p e).1;omega
theorem ZG.lo{B:Nat}{w:World}{d:Dm}(h:ZG B w d):∀a∈d.as,∀p,a=some p->B<=p.block:=fun a ha p e=>by
 simp only[Dm.as,List.mem_cons,List.not_mem_nil,or_false]at ha;rcases ha with rfl|rfl|rfl|rfl|rfl|rfl
 · exact(qu h.pr p e).1
 · exact(qu h.tg p e).1
 · exact(qu h.lk p e).1
 · exact(qu h.rn p e).1
 · exact(qu h.ld p e).1
 · exact(qu h.cl p e).1
theorem zR.draft{w w5:World}{g:Nat}{c:zt}{x:Em}(h:zR w g c x)(hb:Below w.heap.size w w5)(d:Dm)(hd:ZG w.heap.size w5 d):zR (w5.setRow g (qW c {x with dr:=d})) g c {x with dr:=d}/\w.grownBy (w5.setRow g (qW c {x with dr:=d})) (some g):=
 h.set hb {x with dr:=d} hd.n (h.ab.keep hb) (fun a ha=>by
  rcases List.mem_append.1 ha with h1|h1
  · exact hd.off (zh h.box) a h1
  · exact h.offx a (List.mem_append_right _ h1))
theorem kR(v:Value):Instr.loadAt qn v=qD qn v:=Kg
theorem Kd(v u:Value):Instr.storeAt qn v u=Zo qn v u:=kQ
theorem Kc{w:World}{g:Nat}{c:zt}{x:Em}(h:zR w g c x):(qD qn (.pointer (some ⟨g,0,none⟩))).run prog w=.ok (.agg (zI x.dr)) w:=
 UI (P:=prog) (w:=w) (T:=qn) (n:=14) (g:=g) (o:=0) (cs:=qW c x) (by exact isAgg76) (by exact sizeOf76) h.box (by show 0+14<=54;omega)
theorem zim{w:World}{g:Nat}{c:zt}{x:Em}(h:w.heap[g]? =some (.cells (qW c x) Ve (0,0)))(d:Dm):(Zo qn (.pointer (some ⟨g,0,none⟩)) (.agg (zI d))).run prog w=.ok () (w.setRow g (qW c {x with dr:=d})):=by
 have h1:=XU (P:=prog) (w:=w) (T:=qn) (g:=g) (o:=0) (cs:=qW c x) (vs:=zI d) h (by show 0+14<=54;omega) (by show 0<14;omega) QD (Pf d);rw[zku]at h1;exact h1
theorem zR.put{w W W5:World}{g:Nat}{c:zt}{x:Em}{d:Dr}{e:Ending}(h:zR w g c x)(hW:Below w.heap.size w W)(hP:Jr W d e W5):∃y,e=.returned (.agg (zI y))/\y.d=d/\(Zo qn (.pointer (some ⟨g,0,none⟩)) (.agg (zI y))).run prog W5=.ok () (W5.setRow g (qW c {x with dr:=y}))/\zR (W5.setRow g (qW c {x with dr:=y})) g c {x with dr:=y}/\w.grownBy (W5.setRow g (qW c {x with dr:=y})) (some g)/\Fr w x {x with dr:=y}:=by
 obtain⟨y,rfl,hy,hd,hb⟩:=hP;have hb5:=bt hW hb;have hd5:ZG w.heap.size W5 y:=hd.base hW.size;obtain⟨h6,g6⟩:=h.draft hb5 y hd5;refine⟨y,rfl,hy,zim ((hb5.block _ (zh h.box)).trans h.box) y,h6,g6,⟨fun a ha p e=>Or.inl (hd5.lo a ha p e),fun a ha p e=>?_⟩⟩;rcases List.mem_append.1 ha with h1|h1
 · exact Or.inl (hd5.lo a h1 p e)
 · exact Or.inr (List.mem_append_right _ h1)
attribute [local go_sem ↓] kR Kd
theorem zkc(g:Nat)(c:zt)(x:Em)(k:Nat)(t:Tm)(w:World)(h:zR w g c x)(hz:Xa c x k)(hE:Env w)(hs:t.value.size<=1000000):
 Calls prog 75 #[.pointer (some ⟨g,0,none⟩),qk t] w (KV w g c x (Qa c.c x.e t) (.tuple #[])):=by
 obtain⟨ky,nmm,op,vl⟩:=t;dsimp only at hs;obtain⟨w1,hw1⟩:∃w1,w.alloc (.cells #[.int .i64 ky,.string nmm,.int .i64 op,.string vl] 146)=w1:=⟨_,rfl⟩;have hb1:Below w.heap.size w w1:=ZX;have hr1:w1.heap[w.heap.size]? =some (.cells #[.int .i64 ky,.string nmm,.int .i64 op,.string vl] 146 (0,0)):=Qo;have hs1:w1.heap.size=w.heap.size+1:=YO;have HX:=za (fun(W:World) (hW:Below w.heap.size w W)=>SW g c x vl W (h.keep hW) (hz.xp h.inp.tr) (hE.go hW) hs);have HA:=za (fun(v:ByteArray) (hv:v.size<=1000000) (W:World) (hW:Below w.heap.size w W)=>zbA x.dr ⟨ky,nmm,op,vl⟩ v k W (h.keep hW).dr hz.gd hz.kk (hE.go hW) hv);have HSx:Hid (∀W,Below w1.heap.size w1 W->W.cell? ⟨w.heap.size,0,none⟩=some (.int .i64 ky)/\W.cell? ⟨w.heap.size,1,none⟩=some (.string nmm)/\W.cell? ⟨w.heap.size,2,none⟩=some (.int .i64 op)/\W.cell? ⟨w.heap.size,3,none⟩=some (.string vl)):=za fun W hW=>by
  have h2:=(hW.block _ (zh hr1)).trans hr1;exact yN
 have hes:=Pn c.c x.e vl;have HP:=za (fun(W:World) (hW:Below w.heap.size w W) (v:ByteArray) (e:Ending) (W5:World) (hP:Jr W (Vh x.dr.d ⟨ky,nmm,op,vl⟩ v) e W5)=>h.put hW hP);have HL:Hid (∀W,Below w.heap.size w W->(qD qn (.pointer (some ⟨g,0,none⟩))).run prog W=.ok (.agg (zI x.dr)) W):=za fun W hW=>Kc (h.keep hW);have hgl:g<w.heap.size:=zh h.box;have HB1:=za hb1;have HW1:=za hw1;have HS1:=za hs1;clear h hz hE hw1 hb1 hr1 hs1;have hgW:g<w1.heap.size:=NH;have hlW:w.heap.size<w1.heap.size:=NH;unfold qk at*;by_cases hk:ky=22∨ky=23∨ky=24
 · have he:Qa c.c x.e ⟨ky,nmm,op,vl⟩={x.e with dr:=Vh x.e.dr ⟨ky,nmm,op,vl⟩ vl}:=by unfold Qa;rw[if_pos hk]
   have HA2:=za (HA.out vl hs);have HE:=za he;clear he HA HX hes;have hl:=HL.out w1.drew (bt HB1.out zj.drew);rcases hk with rfl|rfl|rfl
   all_goals
    go_enter func75,ntmps75;go_upto_region 1 with fail
    rw[HW1.out];obtain⟨c0,c1,c2,c3⟩:=HSx.out w1 zj;go_upto_region 7 with fail
    go_region_with (go_at_call 99;go_loud (refine(HA2.out w1.drew (bt HB1.out zj.drew)).mono ?_;rintro e w3 hP;obtain⟨y,rfl,hy,hst,h6,g6,fr6⟩:=HP.out _ (bt HB1.out zj.drew) _ _ _ hP;have H6:=za h6;have G6:=za g6;have HY:=za hy;have FR6:=za fr6;clear h6 g6 hy hP fr6))
   all_goals
    refine bodyPost_ret (v:=.tuple #[]) (results_none rfl _ _ _) rfl ?_;refine⟨_,rfl,?_,H6.out,G6.out,FR6.out⟩;rw[HE.out];unfold Em.e;rw[HY.out]
 · have he:Qa c.c x.e ⟨ky,nmm,op,vl⟩={x.e with dr:=Vh x.e.dr ⟨ky,nmm,op,vl⟩ (Qp c.c x.e vl)}:=by unfold Qa;rw[if_neg hk]
   have HA2:=za (HA.out (Qp c.c x.e vl) zb);have HE:=za he;clear he HA hes;generalize Qp c.c x.e vl=ex at*;have n1:ky≠22:=fun e=>hk (Or.inl e);have n2:ky≠23:=fun e=>hk (Or.inr (Or.inl e));have n3:ky≠24:=fun e=>hk (Or.inr (Or.inr e));clear hk;go_enter func75,ntmps75;go_upto_region 1 with fail
   rw[HW1.out];obtain⟨c0,c1,c2,c3⟩:=HSx.out w1 zj;go_upto_region 7 with(go_at_call 98;refine(HX.out w1 HB1.out).mono ?_;rintro e w2 ⟨rfl,hb2⟩;have HB2:=za hb2;obtain⟨d0,d1,d2,d3⟩:=HSx.out w2 hb2;have hl:=HL.out w2.drew (bt HB1.out (bt hb2 zj.drew));(have hgW2:g<w2.heap.size:=i4 hgW hb2.size);(have hlW2:w.heap.size<w2.heap.size:=i4 hlW hb2.size);clear hb2 c0 c1 c2 c3)
   go_region_with (go_at_call 99;go_loud (refine(HA2.out w2.drew (bt HB1.out (bt HB2.out zj.drew))).mono ?_;rintro e w3 hP;obtain⟨y,rfl,hy,hst,h6,g6,fr6⟩:=HP.out _ (bt HB1.out (bt HB2.out zj.drew)) _ _ _ hP;have H6:=za h6;have G6:=za g6;have HY:=za hy;have FR6:=za fr6;clear h6 g6 hy hP fr6))
   all_goals
    refine bodyPost_ret (v:=.tuple #[]) (results_none rfl _ _ _) rfl ?_;refine⟨_,rfl,?_,H6.out,G6.out,FR6.out⟩;rw[HE.out];unfold Em.e;rw[HY.out]
end Go.Proofs.YtecbmndgpepkcaaGreatDoor

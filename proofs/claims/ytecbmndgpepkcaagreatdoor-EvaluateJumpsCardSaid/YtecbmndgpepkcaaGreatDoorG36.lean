/- Contracts of functions that the law reaches, and what they rest on; each under the premises that it names. Shortened by a program. -/
import Derived.Test.YtecbmndgpepkcaaGreatDoorHpF
import Derived.Test.YtecbmndgpepkcaaGreatDoorHpG
import Derived.Test.YtecbmndgpepkcaaGreatDoorHpH
import Derived.Test.YtecbmndgpepkcaaGreatDoorEvE
import Derived.Test.YtecbmndgpepkcaaGreatDoorG31
import Derived.Lib.SliceRun
namespace Go.Proofs.YtecbmndgpepkcaaGreatDoor
open Tryz
set_option maxHeartbeats 8000000
set_option maxRecDepth 100000
section
open Go.RowKit Go.Shelf
theorem zfM(y:Ls Hp)(lim calls:Int)(cmd:ByteArray)(w:World)(hy:zB 4 Qt w y)(hl:y.l.length<=1000)(hc:∀x∈y.l,x.cmd.size<=1000000)(hs:cmd.size<=1000000):
 Calls prog 120 #[.slice y.A y.l.length y.c,.int .i64 lim,.int .i64 calls,.string cmd] w fun e w'=>e=.returned (.tuple #[.string (Za y.l lim calls cmd).1,.int .i64 (Za y.l lim calls cmd).2.1,.int .i64 (Za y.l lim calls cmd).2.2])/\Below w.heap.size w w':=by
 by_cases h16:16<=calls
 · exact F9 y lim calls cmd w hy hl hc hs (fun h=>absurd h16 h)
 · cases hf:y.l.find? (fun x=>zS (L x.cmd) (L cmd))with
   |none=>exact F9 y lim calls cmd w hy hl hc hs (fun _=>hf)
   | some x0=>
     by_cases ht:lim<x0.ticks
     · exact zdX y lim calls cmd w hy hl hc hs h16 x0 hf ht
     · cases hfl:x0.fails with
       |true=>exact ziW y lim calls cmd w hy hl hc hs h16 x0 hf ⟨ht,hfl⟩
       |false=>exact C6 y lim calls cmd w hy hl hc hs h16 x0 hf ⟨ht,hfl⟩
end
section
open Go.RowKit
structure Fr(w:World)(x y:Em):Prop where
 d:∀a∈y.dr.as,∀p,a=some p->w.heap.size<=p.block∨a∈x.dr.as
 a:∀a∈y.as,∀p,a=some p->w.heap.size<=p.block∨a∈x.as
theorem Fr.same{w:World}{x y:Em}(h1:y.dr.as=x.dr.as)(h:y.as=x.as):Fr w x y:=⟨fun a ha _ _=>Or.inr (by rw[<-h1];exact ha),fun a ha _ _=>Or.inr (by rw[<-h];exact ha)⟩
theorem Fr.trans{w w0:World}{x y z:Em}(h1:Fr w x y)(h2:Fr w0 y z)(hs:w.heap.size<=w0.heap.size):Fr w x z:=⟨fun a ha p e=>by
 rcases h2.d a ha p e with h|h
 · exact I2
 · exact h1.d a h p e,fun a ha p e=>by
 rcases h2.a a ha p e with h|h
 · exact I2
 · exact h1.a a h p e⟩
def Kc(w:World)(g:Nat)(c:zt)(x:Em)(y:Ev)(v:Value)(e:Ending)(w':World):Prop:=∃x',e=.returned v/\x'.e=y/\zO w' g c x'/\w.grownBy w' (some g)/\Fr w x x'
theorem C0{ds:List Dv}{d:Dd}(h:d∈zm ds):∃z∈ds,z.d=d:=List.mem_map.1 h
theorem YX.atl{c:zt}{x:Em}{k:Nat}(_h:YX c x k)(w:World)(ht:qk w c.tA c.tds){d:Dv}(hd:d.d∈zm c.tds):d.ats.l.length<=1000:=by
 obtain⟨z,hz,he⟩:=C0 hd;have h1:=ht.al z hz;have h2:z.d.ats=d.d.ats:=by rw[he]
 have h3:z.ats.l=d.ats.l:=h2;rw[<-h3];exact h1
theorem YX.xp{w:World}{c:zt}{x:Em}{k:Nat}(h:YX c x k)(ht:qk w c.tA c.tds):F8 c x:=by
 have h1:=h.dv _ h.dev;have h2:=h.dv _ h.ab;have h3:=h1.1.og;have h4:=h2.1.og;have h5:=h2.2.2.1;have h6:=h.gd.pl;exact⟨Nat.le_trans h3 zi,h.org,Nat.le_trans h4 zi,Nat.le_trans h5 zi,h.pnt,h.gd.nm,h.gd.rs,h1.2.2.2.2.2,h2.2.2.2.2.2,h.gd.pv,h.atl w ht h.dev,h.atl w ht h.ab,Nat.le_trans h6 zi⟩
theorem zO.calls{w:World}{g:Nat}{c:zt}{x:Em}(h:zO w g c x)(n:Int):zO (w.setCell ⟨g,11,none⟩ (.int .i64 n)) g c {x with dr:={x.dr with calls:=n}}/\w.grownBy (w.setCell ⟨g,11,none⟩ (.int .i64 n)) (some g):=
 h.one 11 _ {x with dr:={x.dr with calls:=n}} rfl ⟨h.dr.pr,h.dr.tg,h.dr.lk,h.dr.rn,h.dr.ld,h.dr.cl⟩ h.ab h.offx
theorem zO.ticks{w:World}{g:Nat}{c:zt}{x:Em}(h:zO w g c x)(n:Int):zO (w.setCell ⟨g,12,none⟩ (.int .i64 n)) g c {x with dr:={x.dr with ticks:=n}}/\w.grownBy (w.setCell ⟨g,12,none⟩ (.int .i64 n)) (some g):=
 h.one 12 _ {x with dr:={x.dr with ticks:=n}} rfl ⟨h.dr.pr,h.dr.tg,h.dr.lk,h.dr.rn,h.dr.ld,h.dr.cl⟩ h.ab h.offx
theorem vW(g:Nat)(c:zt)(x:Em)(k:Nat)(s:ByteArray)(w:World)(h:zO w g c x)(hz:YX c x k)(hE:Env w)(hs:s.size<=1000000):
 Calls prog 95 #[.pointer (some ⟨g,0,none⟩),.string s] w (Kc w g c x (Q3 x.e (qL c.c x.e s).2.1) (.tuple #[.string (qL c.c x.e s).1,.bool ((qL c.c x.e s).2.2==0)])):=by
 have HX:=za (fun(W:World) (hW:Below w.heap.size w W)=>DZ g c x s W (h.keep hW) (hz.xp h.inp.tr) (hE.go hW) hs);have hcl:qL c.c x.e s=Za c.hs.l c.lim x.dr.calls (QC c.c x.e s):=rfl;have hes:=Tb c.c x.e s;have HC:=za (fun(W:World) (hW:Below w.heap.size w W)=>zfM c.hs c.lim x.dr.calls (QC c.c x.e s) W ((h.keep hW).inp.hp) hz.hl hz.hc zb);have hok:=IW hz.ok.hp x.dr.calls (QC c.c x.e s);have hok1:0<=(Za c.hs.l c.lim x.dr.calls (QC c.c x.e s)).2.1:=hok.1;have hok2:(Za c.hs.l c.lim x.dr.calls (QC c.c x.e s)).2.1<=1000:=Int.le_trans hok.2.1 hz.ok.hp.2.1;have hca:0<=x.dr.calls/\x.dr.calls<=k:=hz.gd.ca;have htk:0<=x.dr.ticks/\x.dr.ticks<=1000*k:=hz.gd.tk;have hkk:=hz.kk;rw[hcl];clear hcl hok hes;generalize QC c.c x.e s=ex at*;generalize Za c.hs.l c.lim x.dr.calls ex=R at*;obtain⟨ou,ti,en⟩:=R;dsimp only at hok1 hok2 HC⊢;have HQ:Hid (∀W',Below w.heap.size w W'->W'.cell? ⟨g,29,none⟩=some (.slice c.hs.A c.hs.l.length c.hs.c)/\W'.cell? ⟨g,30,none⟩=some (.int .i64 c.lim)/\W'.cell? ⟨g,11,none⟩=some (.int .i64 x.dr.calls)):=za fun W' hW'=>by
  have h1:=(hW'.block _ (zh h.box)).trans h.box;exact⟨zd h1 rfl,zd h1 rfl,zd h1 rfl⟩
 have H:=za h;clear h hz hE;go_enter func95,ntmps95;go_upto_region 1 with fail
 go_region_held3 (fun W'=>W'.cell? ⟨g,29,none⟩=some (.slice c.hs.A c.hs.l.length c.hs.c)/\W'.cell? ⟨g,30,none⟩=some (.int .i64 c.lim)/\W'.cell? ⟨g,11,none⟩=some (.int .i64 x.dr.calls)) ((refine HQ.out _ ?_;first|exact zk.drew|exact hB2|exact hB1)) ((first
  |(go_at_call 98;refine(HX.out _ zk.drew).mono ?_;rintro e w1 ⟨rfl,hb1⟩;(have hB1:Below w.heap.size w w1:=bt zk.drew hb1))
  |(go_at_call 120;refine(HC.out _ hB1).mono ?_;rintro e w2 ⟨rfl,hb2⟩;(have hB2:Below w.heap.size w w2:=bt hB1 hb2))))
 have HB2:=za hB2;have h2:=H.out.keep hB2;have q11:w2.cell? ⟨g,11,none⟩=some (.int .i64 x.dr.calls):=zd h2.box rfl;have f11:=qb h2.box 11;obtain⟨h3,g3⟩:=h2.calls (x.dr.calls+1);have q12:(w2.setCell ⟨g,11,none⟩ (.int .i64 (x.dr.calls+1))).cell? ⟨g,12,none⟩=some (.int .i64 x.dr.ticks):=zd h3.box rfl;have f12:=qb h3.box 12;obtain⟨h4,g4⟩:=h3.ticks (x.dr.ticks+ti);have H4:=za h4;have HG:Hid (w.grownBy ((w2.setCell ⟨g,11,none⟩ (.int .i64 (x.dr.calls+1))).setCell ⟨g,12,none⟩ (.int .i64 (x.dr.ticks+ti))) (some g)):=za ((zG hB2 _).trans (g3.trans g4));clear h2 h3 h4 g3 g4 hB1 hB2 hb1 hb2;go_wp2;go_ret2;exact⟨_,rfl,rfl,H4.out,HG.out,Fr.same rfl rfl⟩
end
section
open Go.RowKit
theorem zgn(c:zt)(x:Em)(d:Dm):ZS (qN c x) 0 (zE d).toList=qN c {x with dr:=d}:=zg
theorem Zy.off{B g:Nat}{w:World}{d:Dm}(h:Zy B w d)(hg:g<B):Y6 g d.as:=fun a ha p e=>by
 simp only[Dm.as,List.mem_cons,List.not_mem_nil,or_false]at ha;rcases ha with rfl|rfl|rfl|rfl|rfl|rfl
 · have:=(qo h.pr p e).1;omega
 · have:=(qo h.tg p e).1;omega
 · have:=(qo h.lk p e).1;omega
 · have:=(qo h.rn p e).1;omega
 · have:=(qo h.ld p e).1;omega
 · have:=(qo h.cl p e).1;omega
theorem Zy.lo{B:Nat}{w:World}{d:Dm}(h:Zy B w d):∀a∈d.as,∀p,a=some p->B<=p.block:=fun a ha p e=>by
 simp only[Dm.as,List.mem_cons,List.not_mem_nil,or_false]at ha;rcases ha with rfl|rfl|rfl|rfl|rfl|rfl
 · exact(qo h.pr p e).1
 · exact(qo h.tg p e).1
 · exact(qo h.lk p e).1
 · exact(qo h.rn p e).1
 · exact(qo h.ld p e).1
 · exact(qo h.cl p e).1
theorem zO.draft{w w5:World}{g:Nat}{c:zt}{x:Em}(h:zO w g c x)(hb:Below w.heap.size w w5)(d:Dm)(hd:Zy w.heap.size w5 d):zO (w5.setRow g (qN c {x with dr:=d})) g c {x with dr:=d}/\w.grownBy (w5.setRow g (qN c {x with dr:=d})) (some g):=
 h.set hb {x with dr:=d} hd.n (h.ab.keep hb) (fun a ha=>by
  rcases List.mem_append.1 ha with h1|h1
  · exact hd.off (zh h.box) a h1
  · exact h.offx a (List.mem_append_right _ h1))
theorem kr(v:Value):Instr.loadAt qh v=qB qh v:=kO
theorem kn(v u:Value):Instr.storeAt qh v u=Zo qh v u:=kN
theorem kP{w:World}{g:Nat}{c:zt}{x:Em}(h:zO w g c x):(qB qh (.pointer (some ⟨g,0,none⟩))).run prog w=.ok (.agg (zE x.dr)) w:=
 UU (P:=prog) (w:=w) (T:=qh) (n:=14) (g:=g) (o:=0) (cs:=qN c x) (by exact isAgg76) (by exact sizeOf76) h.box (by show 0+14<=54;omega)
theorem zgL{w:World}{g:Nat}{c:zt}{x:Em}(h:w.heap[g]? =some (.cells (qN c x) UY (0,0)))(d:Dm):(Zo qh (.pointer (some ⟨g,0,none⟩)) (.agg (zE d))).run prog w=.ok () (w.setRow g (qN c {x with dr:=d})):=by
 have h1:=XC (P:=prog) (w:=w) (T:=qh) (g:=g) (o:=0) (cs:=qN c x) (vs:=zE d) h (by show 0+14<=54;omega) (by show 0<14;omega) Qu (OR d);rw[zgn]at h1;exact h1
theorem zO.put{w W W5:World}{g:Nat}{c:zt}{x:Em}{d:Dr}{e:Ending}(h:zO w g c x)(hW:Below w.heap.size w W)(hP:Jg W d e W5):∃y,e=.returned (.agg (zE y))/\y.d=d/\(Zo qh (.pointer (some ⟨g,0,none⟩)) (.agg (zE y))).run prog W5=.ok () (W5.setRow g (qN c {x with dr:=y}))/\zO (W5.setRow g (qN c {x with dr:=y})) g c {x with dr:=y}/\w.grownBy (W5.setRow g (qN c {x with dr:=y})) (some g)/\Fr w x {x with dr:=y}:=by
 obtain⟨y,rfl,hy,hd,hb⟩:=hP;have hb5:=bt hW hb;have hd5:Zy w.heap.size W5 y:=hd.base hW.size;obtain⟨h6,g6⟩:=h.draft hb5 y hd5;refine⟨y,rfl,hy,zgL ((hb5.block _ (zh h.box)).trans h.box) y,h6,g6,⟨fun a ha p e=>Or.inl (hd5.lo a ha p e),fun a ha p e=>?_⟩⟩;rcases List.mem_append.1 ha with h1|h1
 · exact Or.inl (hd5.lo a h1 p e)
 · exact Or.inr (List.mem_append_right _ h1)
attribute [local go_sem ↓] kr kn
theorem zdZ(g:Nat)(c:zt)(x:Em)(k:Nat)(t:Tm)(w:World)(h:zO w g c x)(hz:YX c x k)(hE:Env w)(hs:t.value.size<=1000000):
 Calls prog 75 #[.pointer (some ⟨g,0,none⟩),qe t] w (Kc w g c x (QJ c.c x.e t) (.tuple #[])):=by
 obtain⟨ky,nmm,op,vl⟩:=t;dsimp only at hs;obtain⟨w1,hw1⟩:∃w1,w.alloc (.cells #[.int .i64 ky,.string nmm,.int .i64 op,.string vl] 146)=w1:=⟨_,rfl⟩;have hb1:Below w.heap.size w w1:=ZV;have hr1:w1.heap[w.heap.size]? =some (.cells #[.int .i64 ky,.string nmm,.int .i64 op,.string vl] 146 (0,0)):=Qc;have hs1:w1.heap.size=w.heap.size+1:=YJ;have HX:=za (fun(W:World) (hW:Below w.heap.size w W)=>DZ g c x vl W (h.keep hW) (hz.xp h.inp.tr) (hE.go hW) hs);have HA:=za (fun(v:ByteArray) (hv:v.size<=1000000) (W:World) (hW:Below w.heap.size w W)=>zc0 x.dr ⟨ky,nmm,op,vl⟩ v k W (h.keep hW).dr hz.gd hz.kk (hE.go hW) hv);have HSx:Hid (∀W,Below w1.heap.size w1 W->W.cell? ⟨w.heap.size,0,none⟩=some (.int .i64 ky)/\W.cell? ⟨w.heap.size,1,none⟩=some (.string nmm)/\W.cell? ⟨w.heap.size,2,none⟩=some (.int .i64 op)/\W.cell? ⟨w.heap.size,3,none⟩=some (.string vl)):=za fun W hW=>by
  have h2:=(hW.block _ (zh hr1)).trans hr1;exact Rr
 have hes:=Tb c.c x.e vl;have HP:=za (fun(W:World) (hW:Below w.heap.size w W) (v:ByteArray) (e:Ending) (W5:World) (hP:Jg W (U2 x.dr.d ⟨ky,nmm,op,vl⟩ v) e W5)=>h.put hW hP);have HL:Hid (∀W,Below w.heap.size w W->(qB qh (.pointer (some ⟨g,0,none⟩))).run prog W=.ok (.agg (zE x.dr)) W):=za fun W hW=>kP (h.keep hW);have hgl:g<w.heap.size:=zh h.box;have HB1:=za hb1;have HW1:=za hw1;have HS1:=za hs1;clear h hz hE hw1 hb1 hr1 hs1;have hgW:g<w1.heap.size:=Oc;have hlW:w.heap.size<w1.heap.size:=Oc;unfold qe at*;by_cases hk:ky=22∨ky=23∨ky=24
 · have he:QJ c.c x.e ⟨ky,nmm,op,vl⟩={x.e with dr:=U2 x.e.dr ⟨ky,nmm,op,vl⟩ vl}:=by unfold QJ;rw[if_pos hk]
   have HA2:=za (HA.out vl hs);have HE:=za he;clear he HA HX hes;have hl:=HL.out w1.drew (bt HB1.out zk.drew);rcases hk with rfl|rfl|rfl
   all_goals
    go_enter func75,ntmps75;go_upto_region 1 with fail
    rw[HW1.out];obtain⟨c0,c1,c2,c3⟩:=HSx.out w1 zk;go_upto_region 7 with fail
    go_region_with (go_at_call 99;go_loud (refine(HA2.out w1.drew (bt HB1.out zk.drew)).mono ?_;rintro e w3 hP;obtain⟨y,rfl,hy,hst,h6,g6,fr6⟩:=HP.out _ (bt HB1.out zk.drew) _ _ _ hP;have H6:=za h6;have G6:=za g6;have HY:=za hy;have FR6:=za fr6;clear h6 g6 hy hP fr6))
   all_goals
    refine bodyPost_ret (v:=.tuple #[]) (results_none rfl _ _ _) rfl ?_;refine⟨_,rfl,?_,H6.out,G6.out,FR6.out⟩;rw[HE.out];unfold Em.e;rw[HY.out]
 · have he:QJ c.c x.e ⟨ky,nmm,op,vl⟩={x.e with dr:=U2 x.e.dr ⟨ky,nmm,op,vl⟩ (QC c.c x.e vl)}:=by unfold QJ;rw[if_neg hk]
   have HA2:=za (HA.out (QC c.c x.e vl) zb);have HE:=za he;clear he HA hes;generalize QC c.c x.e vl=ex at*;have n1:ky≠22:=fun e=>hk (Or.inl e);have n2:ky≠23:=fun e=>hk (Or.inr (Or.inl e));have n3:ky≠24:=fun e=>hk (Or.inr (Or.inr e));clear hk;go_enter func75,ntmps75;go_upto_region 1 with fail
   rw[HW1.out];obtain⟨c0,c1,c2,c3⟩:=HSx.out w1 zk;go_upto_region 7 with(go_at_call 98;refine(HX.out w1 HB1.out).mono ?_;rintro e w2 ⟨rfl,hb2⟩;have HB2:=za hb2;obtain⟨d0,d1,d2,d3⟩:=HSx.out w2 hb2;have hl:=HL.out w2.drew (bt HB1.out (bt hb2 zk.drew));(have hgW2:g<w2.heap.size:=Nat.lt_of_lt_of_le hgW hb2.size);(have hlW2:w.heap.size<w2.heap.size:=Nat.lt_of_lt_of_le hlW hb2.size);clear hb2 c0 c1 c2 c3)
   go_region_with (go_at_call 99;go_loud (refine(HA2.out w2.drew (bt HB1.out (bt HB2.out zk.drew))).mono ?_;rintro e w3 hP;obtain⟨y,rfl,hy,hst,h6,g6,fr6⟩:=HP.out _ (bt HB1.out (bt HB2.out zk.drew)) _ _ _ hP;have H6:=za h6;have G6:=za g6;have HY:=za hy;have FR6:=za fr6;clear h6 g6 hy hP fr6))
   all_goals
    refine bodyPost_ret (v:=.tuple #[]) (results_none rfl _ _ _) rfl ?_;refine⟨_,rfl,?_,H6.out,G6.out,FR6.out⟩;rw[HE.out];unfold Em.e;rw[HY.out]
end
section
open Go.RowKit Go.Maps
theorem zc7(v n u:ByteArray)(B:Nat)(w:World)(hp:v.size<=1000000)(hs:n.size<=1000000)(hB:B<w.heap.size)(hc:w.cell? ⟨B,0,none⟩=some (.string v)):
 Calls prog 157 #[.agg #[.string n,.string u],.pointer (some ⟨B,0,none⟩)] w fun e w'=>e=.returned (.bool (!zS (L v) (L n)))/\Below w.heap.size w w':=by
 have HM:=za (fun W=>I0 v n W zb zb);generalize zS (L v) (L n)=b at*;go_enter func157,ntmps157;go_wp2_with (go_at_call 127;refine(HM.out _).mono ?_;rintro e w2 ⟨rfl,hb2⟩)
 go_ret;exact⟨rfl,bt zw hb2⟩
def yo(w0:World)(x:Nat)(zs:List At)(q:At->Bool):Prop:=∀z∈zs,∀W,Below w0.heap.size w0 W->Calls prog 157 #[.agg #[.string z.name,.string z.val],.pointer (some ⟨x,0,none⟩)] W fun e w'=>e=.returned (.bool (q z))/\Below W.heap.size W w'
theorem zi7(A:Option Addr)(c x:Nat)(zs:List At)(q:At->Bool)(w0 w:World)(hn:zs.length<=1000000)(h:zr w w.heap.size A 2 zs.length (cellsOf zu zs))(hb0:Below w0.heap.size w0 w)(hq:yo w0 x zs q):
 Calls prog 190 #[.slice A zs.length c,.func (.func 157) #[] #[.pointer (some ⟨x,0,none⟩)]] w fun e w'=>e=.returned (.int .i64 (Yw q zs))/\Below w.heap.size w w':=by
 have H:=za h;have HQ:=za hq;have HB0:=za hb0;clear h hq hb0;generalize hN:zs.length=N at*;have HN:=za hN;clear hN;go_enter func190,ntmps190;go_wp2;go_loopg [8] (N+1) (fun gk s8 wr=>∃k:Nat,s8=.int .i64 k/\k+gk=N+1/\k<=N/\Hid (∀j (h:j<zs.length),j<k->q zs[j]=false)/\Hid (Below w.heap.size w wr))
 case atStart=>exact⟨0,rfl,zb,Nat.zero_le _,(fun j _ h=>absurd h (Nat.not_lt_zero _)),zk⟩
 case round=>
  obtain⟨k,rfl,hkg,hkN,hno,hB⟩:=hrel;by_cases hlt:k<N
  · have hk':k<zs.length:=by rw[HN.out];exact hlt
    have hrow:=H.out;rw[<-HN.out]at hrow;obtain⟨ba,off,rfl,c0,c1⟩:=Jl hrow hB.out hk';have hltI:(k:Int)<(N:Int):=zb;have HC:=za (HQ.out zs[k] (List.getElem_mem _) wr (bt HB0.out hB.out));have HHit:=za (fun(h:q zs[k]=true)=>Od hno.out hk' h);have HNx:Hid (q zs[k]=false->∀j (h:j<zs.length),j<k+1->q zs[j]=false):=za fun hne j h hj=>jA;generalize q zs[k]=b at*;generalize zs[k].name=zn at*;generalize zs[k].val=zv at*;clear hk' hrow;cases b
    · have HA:=za (HNx.out rfl);go_wp2_with (go_at_call 157;refine HC.out.mono ?_;rintro e w2 ⟨rfl,hb2⟩)
      go_roundg (gk - 1)
      case measure=>omega
      case rel=>exact⟨k+1,zP,zb,zb,HA.out,bt hB.out hb2⟩
    · have HV:=za (HHit.out rfl);go_wp2_with (go_at_call 157;refine HC.out.mono ?_;rintro e w2 ⟨rfl,hb2⟩)
      go_ret;rw[HV.out];exact⟨rfl,bt hB.out hb2⟩
  · obtain rfl:k=N:=by omega
    have HV:=za (Nt (l:=zs) (q:=q) fun j h=>hno.out j h Iu);go_wp2;go_ret;rw[HV.out];exact⟨rfl,hB.out⟩
end
end Go.Proofs.YtecbmndgpepkcaaGreatDoor

/-
  Contract of helper's Call.
  Contract of an evaluation's call.
  Contract of an evaluation's assigns.
  Contracts of slices.IndexFunc and DeleteFunc at properties, for inherited's closure, and of inherited.
-/
import Derived.Test.YtobcmlmbblgcdaaGreatDoorG26
import Derived.Test.YtobcmlmbblgcdaaGreatDoorHpF
import Derived.Test.YtobcmlmbblgcdaaGreatDoorHpG
import Derived.Test.YtobcmlmbblgcdaaGreatDoorHpH
import Derived.Test.YtobcmlmbblgcdaaGreatDoorEvE
import Derived.Test.YtobcmlmbblgcdaaGreatDoorG31
import Derived.Test.YtobcmlmbblgcdaaGreatDoorG00
import Derived.Lib.SliceRun
namespace Go.Proofs.YtobcmlmbblgcdaaGreatDoor
set_option maxRecDepth 100000
section
open Go.RowKit Go.Shelf
theorem HCall_any (y:Ls Hp) (lim calls:Int) (cmd:ByteArray) (w:World) (hy:LsN 4 encHp w y) (hl:y.l.length≤1000) (hc:∀ x∈y.l,x.cmd.size≤1000000) (hs:cmd.size≤1000000) :
 Calls Tryz.prog 135 #[.slice y.A y.l.length y.c,.int .i64 lim,.int .i64 calls,.string cmd] w fun e w'=>e=.returned (.tuple #[.string (callS y.l lim calls cmd).1,.int .i64 (callS y.l lim calls cmd).2.1,.int .i64 (callS y.l lim calls cmd).2.2])∧Below w.heap.size w w':=by
 by_cases h16:16≤calls
 · exact HCall_early y lim calls cmd w hy hl hc hs (fun h=>absurd h16 h)
 · cases hf:y.l.find? (fun x=>globM (L x.cmd) (L cmd)) with
   | none=>exact HCall_early y lim calls cmd w hy hl hc hs (fun _=>hf)
   | some x0 =>
     by_cases ht:lim<x0.ticks
     · exact HCall_late y lim calls cmd w hy hl hc hs h16 x0 hf ht
     · cases hfl:x0.fails with
       | true=>exact HCall_fails y lim calls cmd w hy hl hc hs h16 x0 hf ⟨ht,hfl⟩
       | false=>exact HCall_fine y lim calls cmd w hy hl hc hs h16 x0 hf ⟨ht,hfl⟩
end
section
open Go.RowKit
structure Fr (w:World) (x y:Em):Prop where
 d:∀ a∈y.dr.as,∀ p,a=some p→w.heap.size≤p.block∨a∈x.dr.as
 a:∀ a∈y.as,∀ p,a=some p→w.heap.size≤p.block∨a∈x.as
theorem Fr.same {w:World} {x y:Em} (h1:y.dr.as=x.dr.as) (h:y.as=x.as):Fr w x y:=⟨fun a ha _ _=>Or.inr (by rw [←h1];exact ha),fun a ha _ _=>Or.inr (by rw [←h];exact ha)⟩
theorem Fr.trans {w w0:World} {x y z:Em} (h1:Fr w x y) (h2:Fr w0 y z) (hs:w.heap.size≤w0.heap.size):Fr w x z:=⟨fun a ha p e=>by
 rcases h2.d a ha p e with h | h
 · exact Or.inl (Nat.le_trans hs h)
 · exact h1.d a h p e,fun a ha p e=>by
 rcases h2.a a ha p e with h | h
 · exact Or.inl (Nat.le_trans hs h)
 · exact h1.a a h p e⟩
def EvQ (w:World) (g:Nat) (c:EmC) (x:Em) (y:Ev) (v:Value) (e:Ending) (w':World):Prop:=∃ x',e=.returned v∧x'.e=y∧EvO w' g c x'∧w.grownBy w' (some g)∧Fr w x x'
theorem dsD_mem {ds:List Dv} {d:Dd} (h:d∈dsD ds):∃ z∈ds,z.d=d:=List.mem_map.1 h
theorem EmZ.atl {c:EmC} {x:Em} {k:Nat} (_h:EmZ c x k) (w:World) (ht:TrN w c.tA c.tds) {d:Dv} (hd:d.d∈dsD c.tds):d.ats.l.length≤1000:=by
 obtain ⟨z,hz,he⟩:=dsD_mem hd
 have h1:=ht.al z hz
 have h2:z.d.ats=d.d.ats:=by rw [he]
 have h3:z.ats.l=d.ats.l:=h2
 rw [←h3];exact h1
theorem EmZ.xp {w:World} {c:EmC} {x:Em} {k:Nat} (h:EmZ c x k) (ht:TrN w c.tA c.tds):XpZ c x:=by
 have h1:=h.dv _ h.dev
 have h2:=h.dv _ h.ab
 have h3:=h1.1.og
 have h4:=h2.1.og
 have h5:=h2.2.2.1
 have h6:=h.gd.pl
 exact ⟨Nat.le_trans h3 (by decide),h.org,Nat.le_trans h4 (by decide),Nat.le_trans h5 (by decide),h.pnt,h.gd.nm,h.gd.rs,h1.2.2.2.2.2,h2.2.2.2.2.2,h.gd.pv,h.atl w ht h.dev,h.atl w ht h.ab,Nat.le_trans h6 (by decide)⟩
theorem EvO.calls {w:World} {g:Nat} {c:EmC} {x:Em} (h:EvO w g c x) (n:Int):EvO (w.setCell ⟨g,11,none⟩ (.int .i64 n)) g c { x with dr:={ x.dr with calls:=n } }∧w.grownBy (w.setCell ⟨g,11,none⟩ (.int .i64 n)) (some g) :=
 h.one 11 _ { x with dr:={ x.dr with calls:=n } } rfl ⟨h.dr.pr,h.dr.tg,h.dr.lk,h.dr.rn,h.dr.ld,h.dr.cl⟩ h.ab h.offx
theorem EvO.ticks {w:World} {g:Nat} {c:EmC} {x:Em} (h:EvO w g c x) (n:Int):EvO (w.setCell ⟨g,12,none⟩ (.int .i64 n)) g c { x with dr:={ x.dr with ticks:=n } }∧w.grownBy (w.setCell ⟨g,12,none⟩ (.int .i64 n)) (some g) :=
 h.one 12 _ { x with dr:={ x.dr with ticks:=n } } rfl ⟨h.dr.pr,h.dr.tg,h.dr.lk,h.dr.rn,h.dr.ld,h.dr.cl⟩ h.ab h.offx
set_option maxHeartbeats 4000000 in
theorem ECall_any (g:Nat) (c:EmC) (x:Em) (k:Nat) (s:ByteArray) (w:World) (h:EvO w g c x) (hz:EmZ c x k) (hE:Env w) (hs:s.size≤1000000) :
 Calls Tryz.prog 110 #[.pointer (some ⟨g,0,none⟩),.string s] w (EvQ w g c x (tickE x.e (callE c.c x.e s).2.1) (.tuple #[.string (callE c.c x.e s).1,.bool ((callE c.c x.e s).2.2 == 0)])):=by
 have HX:=Lib.hid (fun (W:World) (hW:Below w.heap.size w W)=>EExpand_any g c x s W (h.keep hW) (hz.xp h.inp.tr) (hE.go hW) hs)
 have hcl:callE c.c x.e s=callS c.hs.l c.lim x.dr.calls (expE c.c x.e s):=rfl
 have hes:=expE_size c.c x.e s
 have HC:=Lib.hid (fun (W:World) (hW:Below w.heap.size w W)=>HCall_any c.hs c.lim x.dr.calls (expE c.c x.e s) W ((h.keep hW).inp.hp) hz.hl hz.hc (by omega))
 have hok:=callS_ok hz.ok.hp x.dr.calls (expE c.c x.e s)
 have hok1:0≤(callS c.hs.l c.lim x.dr.calls (expE c.c x.e s)).2.1:=hok.1
 have hok2:(callS c.hs.l c.lim x.dr.calls (expE c.c x.e s)).2.1≤1000:=Int.le_trans hok.2.1 hz.ok.hp.2.1
 have hca:0≤x.dr.calls∧x.dr.calls≤k:=hz.gd.ca
 have htk:0≤x.dr.ticks∧x.dr.ticks≤1000*k:=hz.gd.tk
 have hkk:=hz.kk
 rw [hcl]
 clear hcl hok hes
 generalize expE c.c x.e s=ex at *
 generalize callS c.hs.l c.lim x.dr.calls ex=R at *
 obtain ⟨ou,ti,en⟩:=R
 dsimp only at hok1 hok2 HC ⊢
 have HQ:Hid (∀ W',Below w.heap.size w W'→W'.cell? ⟨g,29,none⟩=some (.slice c.hs.A c.hs.l.length c.hs.c)∧W'.cell? ⟨g,30,none⟩=some (.int .i64 c.lim)∧W'.cell? ⟨g,11,none⟩=some (.int .i64 x.dr.calls)):=Lib.hid fun W' hW'=>by
  have h1:=(hW'.block _ (blk_lt' h.box)).trans h.box
  exact ⟨cellOf h1 rfl,cellOf h1 rfl,cellOf h1 rfl⟩
 have H:=Lib.hid h
 clear h hz hE
 go_enter Tryz.func110,Tryz.ntmps110
 go_upto_region 1 with fail
 go_region_held3 (fun W'=>W'.cell? ⟨g,29,none⟩=some (.slice c.hs.A c.hs.l.length c.hs.c)∧W'.cell? ⟨g,30,none⟩=some (.int .i64 c.lim)∧W'.cell? ⟨g,11,none⟩=some (.int .i64 x.dr.calls)) ((refine HQ.out _ ?_;first | exact (Below.refl _ _).drew | exact hB2 | exact hB1)) ((first
  | (go_at_call 113;refine (HX.out _ (Below.refl _ _).drew).mono ?_;rintro e w1 ⟨rfl,hb1⟩;(have hB1:Below w.heap.size w w1:=bt (Below.refl _ _).drew hb1))
  | (go_at_call 135;refine (HC.out _ hB1).mono ?_;rintro e w2 ⟨rfl,hb2⟩;(have hB2:Below w.heap.size w w2:=bt hB1 hb2))))
 have HB2:=Lib.hid hB2
 have h2:=H.out.keep hB2
 have q11:w2.cell? ⟨g,11,none⟩=some (.int .i64 x.dr.calls):=cellOf h2.box rfl
 have f11:=frz h2.box 11
 obtain ⟨h3,g3⟩:=h2.calls (x.dr.calls+1)
 have q12:(w2.setCell ⟨g,11,none⟩ (.int .i64 (x.dr.calls+1))).cell? ⟨g,12,none⟩=some (.int .i64 x.dr.ticks):=cellOf h3.box rfl
 have f12:=frz h3.box 12
 obtain ⟨h4,g4⟩:=h3.ticks (x.dr.ticks+ti)
 have H4:=Lib.hid h4
 have HG:Hid (w.grownBy ((w2.setCell ⟨g,11,none⟩ (.int .i64 (x.dr.calls+1))).setCell ⟨g,12,none⟩ (.int .i64 (x.dr.ticks+ti))) (some g)):=Lib.hid ((grown_below hB2 _).trans (g3.trans g4))
 clear h2 h3 h4 g3 g4 hB1 hB2 hb1 hb2
 go_wp2
 go_ret2
 exact ⟨_,rfl,rfl,H4.out,HG.out,Fr.same rfl rfl⟩
end
section
open Go.RowKit
theorem ev_setdr (c:EmC) (x:Em) (d:Dm):setAll (evA c x) 0 (drA d).toList=evA c { x with dr:=d }:=by kernel_rfl
theorem DmO.off {B g:Nat} {w:World} {d:Dm} (h:DmO B w d) (hg:g<B):OffG g d.as:=fun a ha p e=>by
 simp only [Dm.as,List.mem_cons,List.not_mem_nil,or_false] at ha
 rcases ha with rfl | rfl | rfl | rfl | rfl | rfl
 · have:=(own_rng h.pr p e).1;omega
 · have:=(own_rng h.tg p e).1;omega
 · have:=(own_rng h.lk p e).1;omega
 · have:=(own_rng h.rn p e).1;omega
 · have:=(own_rng h.ld p e).1;omega
 · have:=(own_rng h.cl p e).1;omega
theorem DmO.lo {B:Nat} {w:World} {d:Dm} (h:DmO B w d):∀ a∈d.as,∀ p,a=some p→B≤p.block:=fun a ha p e=>by
 simp only [Dm.as,List.mem_cons,List.not_mem_nil,or_false] at ha
 rcases ha with rfl | rfl | rfl | rfl | rfl | rfl
 · exact (own_rng h.pr p e).1
 · exact (own_rng h.tg p e).1
 · exact (own_rng h.lk p e).1
 · exact (own_rng h.rn p e).1
 · exact (own_rng h.ld p e).1
 · exact (own_rng h.cl p e).1
theorem EvO.draft {w w5:World} {g:Nat} {c:EmC} {x:Em} (h:EvO w g c x) (hb:Below w.heap.size w w5) (d:Dm) (hd:DmO w.heap.size w5 d):EvO (w5.setRow g (evA c { x with dr:=d })) g c { x with dr:=d }∧w.grownBy (w5.setRow g (evA c { x with dr:=d })) (some g) :=
 h.set hb { x with dr:=d } hd.n (h.ab.keep hb) (fun a ha=>by
  rcases List.mem_append.1 ha with h1 | h1
  · exact hd.off (blk_lt' h.box) a h1
  · exact h.offx a (List.mem_append_right _ h1))
theorem ld_dr (v:Value):Instr.loadAt drT v=ldG drT v:=by unfold ldG;rfl
theorem st_dr (v u:Value):Instr.storeAt drT v u=stG drT v u:=by unfold stG;rfl
theorem ldDr_at {w:World} {g:Nat} {c:EmC} {x:Em} (h:EvO w g c x):(ldG drT (.pointer (some ⟨g,0,none⟩))).run Tryz.prog w=.ok (.agg (drA x.dr)) w :=
 ldG_at (P:=Tryz.prog) (w:=w) (T:=drT) (n:=14) (g:=g) (o:=0) (cs:=evA c x) (by exact Tryz.isAgg52) (by exact Tryz.sizeOf52) h.box (by show 0+14≤54;omega)
theorem stDr_at {w:World} {g:Nat} {c:EmC} {x:Em} (h:w.heap[g]? = some (.cells (evA c x) evT (0,0))) (d:Dm):(stG drT (.pointer (some ⟨g,0,none⟩)) (.agg (drA d))).run Tryz.prog w=.ok () (w.setRow g (evA c { x with dr:=d })) :=
by
 have h1:=stG_at (P:=Tryz.prog) (w:=w) (T:=drT) (g:=g) (o:=0) (cs:=evA c x) (vs:=drA d) h (by show 0+14≤54;omega) (by show 0<14;omega) (by exact drSize) (drA_one d)
 rw [ev_setdr] at h1
 exact h1
theorem EvO.put {w W W5:World} {g:Nat} {c:EmC} {x:Em} {d:Dr} {e:Ending} (h:EvO w g c x) (hW:Below w.heap.size w W) (hP:DrP W d e W5):∃ y,e=.returned (.agg (drA y))∧y.d=d∧(stG drT (.pointer (some ⟨g,0,none⟩)) (.agg (drA y))).run Tryz.prog W5=.ok () (W5.setRow g (evA c { x with dr:=y }))∧EvO (W5.setRow g (evA c { x with dr:=y })) g c { x with dr:=y }∧w.grownBy (W5.setRow g (evA c { x with dr:=y })) (some g)∧Fr w x { x with dr:=y }:=by
 obtain ⟨y,rfl,hy,hd,hb⟩:=hP
 have hb5:=bt hW hb
 have hd5:DmO w.heap.size W5 y:=hd.base hW.size
 obtain ⟨h6,g6⟩:=h.draft hb5 y hd5
 refine ⟨y,rfl,hy,stDr_at ((hb5.block _ (blk_lt' h.box)).trans h.box) y,h6,g6,⟨fun a ha p e=>Or.inl (hd5.lo a ha p e),fun a ha p e=>?_⟩⟩
 rcases List.mem_append.1 ha with h1 | h1
 · exact Or.inl (hd5.lo a h1 p e)
 · exact Or.inr (List.mem_append_right _ h1)
attribute [local go_sem ↓] ld_dr st_dr
set_option maxHeartbeats 4000000 in
theorem EAsg_any (g:Nat) (c:EmC) (x:Em) (k:Nat) (t:Tm) (w:World) (h:EvO w g c x) (hz:EmZ c x k) (hE:Env w) (hs:t.value.size≤1000000) (hK:KeyS t) :
 Calls Tryz.prog 87 #[.pointer (some ⟨g,0,none⟩),tmV t] w (EvQ w g c x (asgE c.c x.e t) (.tuple #[])):=by
 obtain ⟨ky,nmm,op,vl⟩:=t
 have HKs:Hid (KeyS ⟨ky,nmm,op,vl⟩):=Lib.hid hK
 clear hK
 dsimp only at hs
 obtain ⟨w1,hw1⟩:∃ w1,w.alloc (.cells #[.int .i64 ky,.string nmm,.int .i64 op,.string vl] 160)=w1:=⟨_,rfl⟩
 have hb1:Below w.heap.size w w1:=by rw [←hw1];exact below_alloc _ _
 have hr1:w1.heap[w.heap.size]? = some (.cells #[.int .i64 ky,.string nmm,.int .i64 op,.string vl] 160 (0,0)):=by rw [←hw1];exact heap_alloc_new _ _
 have hs1:w1.heap.size=w.heap.size+1:=by rw [←hw1];simp
 have HX:=Lib.hid (fun (W:World) (hW:Below w.heap.size w W)=>EExpand_any g c x vl W (h.keep hW) (hz.xp h.inp.tr) (hE.go hW) hs)
 have HA:=Lib.hid (fun (v:ByteArray) (hv:v.size≤1000000) (W:World) (hW:Below w.heap.size w W)=>Apply_any x.dr ⟨ky,nmm,op,vl⟩ v k W (h.keep hW).dr hz.gd hz.kk (hE.go hW) hv HKs.out)
 have HSx:Hid (∀ W,Below w1.heap.size w1 W→W.cell? ⟨w.heap.size,0,none⟩=some (.int .i64 ky)∧W.cell? ⟨w.heap.size,1,none⟩=some (.string nmm)∧W.cell? ⟨w.heap.size,2,none⟩=some (.int .i64 op)∧W.cell? ⟨w.heap.size,3,none⟩=some (.string vl)):=Lib.hid fun W hW=>by
  have h2:=(hW.block _ (blk_lt' hr1)).trans hr1
  exact ⟨cellOf h2 rfl,cellOf h2 rfl,cellOf h2 rfl,cellOf h2 rfl⟩
 have hes:=expE_size c.c x.e vl
 have HP:=Lib.hid (fun (W:World) (hW:Below w.heap.size w W) (v:ByteArray) (e:Ending) (W5:World) (hP:DrP W (applyS x.dr.d ⟨ky,nmm,op,vl⟩ v) e W5)=>h.put hW hP)
 have HL:Hid (∀ W,Below w.heap.size w W→(ldG drT (.pointer (some ⟨g,0,none⟩))).run Tryz.prog W=.ok (.agg (drA x.dr)) W):=Lib.hid fun W hW=>ldDr_at (h.keep hW)
 have hgl:g<w.heap.size:=blk_lt' h.box
 have HB1:=Lib.hid hb1
 have HW1:=Lib.hid hw1
 have HS1:=Lib.hid hs1
 clear h hz hE hw1 hb1 hr1 hs1
 have hgW:g<w1.heap.size:=by have:=HS1.out;omega
 have hlW:w.heap.size<w1.heap.size:=by have:=HS1.out;omega
 unfold tmV at *
 by_cases hk:ky=22∨ky=23∨ky=24
 · have he:asgE c.c x.e ⟨ky,nmm,op,vl⟩={ x.e with dr:=applyS x.e.dr ⟨ky,nmm,op,vl⟩ vl }:=by unfold asgE;rw [if_pos hk]
   have HA2:=Lib.hid (HA.out vl hs)
   have HE:=Lib.hid he
   clear he HA HX hes
   have hl:=HL.out w1.drew (bt HB1.out (Below.refl _ _).drew)
   rcases hk with rfl | rfl | rfl
   all_goals
    go_enter Tryz.func87,Tryz.ntmps87
    go_upto_region 1 with fail
    rw [HW1.out]
    obtain ⟨c0,c1,c2,c3⟩:=HSx.out w1 (Below.refl _ _)
    go_upto_region 7 with fail
    go_region_with (go_at_call 114;go_loud (refine (HA2.out w1.drew (bt HB1.out (Below.refl _ _).drew)).mono ?_;rintro e w3 hP;obtain ⟨y,rfl,hy,hst,h6,g6,fr6⟩:=HP.out _ (bt HB1.out (Below.refl _ _).drew) _ _ _ hP;have H6:=Lib.hid h6;have G6:=Lib.hid g6;have HY:=Lib.hid hy;have FR6:=Lib.hid fr6;clear h6 g6 hy hP fr6))
   all_goals
    refine bodyPost_ret (v:=.tuple #[]) (results_none rfl _ _ _) rfl ?_
    refine ⟨_,rfl,?_,H6.out,G6.out,FR6.out⟩
    rw [HE.out]
    unfold Em.e
    rw [HY.out]
 · have he:asgE c.c x.e ⟨ky,nmm,op,vl⟩={ x.e with dr:=applyS x.e.dr ⟨ky,nmm,op,vl⟩ (expE c.c x.e vl) }:=by unfold asgE;rw [if_neg hk]
   have HA2:=Lib.hid (HA.out (expE c.c x.e vl) (by omega))
   have HE:=Lib.hid he
   clear he HA hes
   generalize expE c.c x.e vl=ex at *
   have n1:ky≠22:=fun e=>hk (Or.inl e)
   have n2:ky≠23:=fun e=>hk (Or.inr (Or.inl e))
   have n3:ky≠24:=fun e=>hk (Or.inr (Or.inr e))
   clear hk
   go_enter Tryz.func87,Tryz.ntmps87
   go_upto_region 1 with fail
   rw [HW1.out]
   obtain ⟨c0,c1,c2,c3⟩:=HSx.out w1 (Below.refl _ _)
   go_upto_region 7 with (go_at_call 113;refine (HX.out w1 HB1.out).mono ?_;rintro e w2 ⟨rfl,hb2⟩;have HB2:=Lib.hid hb2;obtain ⟨d0,d1,d2,d3⟩:=HSx.out w2 hb2;have hl:=HL.out w2.drew (bt HB1.out (bt hb2 (Below.refl _ _).drew));(have hgW2:g<w2.heap.size:=Nat.lt_of_lt_of_le hgW hb2.size);(have hlW2:w.heap.size<w2.heap.size:=Nat.lt_of_lt_of_le hlW hb2.size);clear hb2 c0 c1 c2 c3)
   go_region_with (go_at_call 114;go_loud (refine (HA2.out w2.drew (bt HB1.out (bt HB2.out (Below.refl _ _).drew))).mono ?_;rintro e w3 hP;obtain ⟨y,rfl,hy,hst,h6,g6,fr6⟩:=HP.out _ (bt HB1.out (bt HB2.out (Below.refl _ _).drew)) _ _ _ hP;have H6:=Lib.hid h6;have G6:=Lib.hid g6;have HY:=Lib.hid hy;have FR6:=Lib.hid fr6;clear h6 g6 hy hP fr6))
   all_goals
    refine bodyPost_ret (v:=.tuple #[]) (results_none rfl _ _ _) rfl ?_
    refine ⟨_,rfl,?_,H6.out,G6.out,FR6.out⟩
    rw [HE.out]
    unfold Em.e
    rw [HY.out]
end
section
open Go.RowKit Go.Maps
end
end Go.Proofs.YtobcmlmbblgcdaaGreatDoor

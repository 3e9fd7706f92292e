/-
  Contract of an evaluation's read.
  Contract of evaluate's begin.
  What run asks for and leaves; a number behind a row of numbers.
  Contract of evaluate's run.
  Contracts of evaluate's Draft, Held and Rules.
  Contract of evaluate's Rules.
  How long the values are that builtins give; which helpers and inputs are right.
-/
import Derived.Test.YtobcmlmbblgcdaaGreatDoorG38
import Derived.Test.YtobcmlmbblgcdaaGreatDoorG19
import Derived.Test.YtobcmlmbblgcdaaGreatDoorG16
import Derived.Test.YtobcmlmbblgcdaaGreatDoorG05
import Derived.Test.YtobcmlmbblgcdaaGreatDoorG26
import Derived.Lib.ItoaLen
import Derived.Test.YtobcmlmbblgcdaaGreatDoorFini
namespace Go.Proofs.YtobcmlmbblgcdaaGreatDoor
set_option maxRecDepth 100000
section
open Go.RowKit
attribute [local go_sem ↓] ld_dev st_dev ap_g
set_option maxHeartbeats 2000000 in
theorem ERead_any (g:Nat) (c:EmC) (x:Em) (kd:Nat) (y:Rl) (w:World) (h:EvO w g c x) (hz:EmW c) (hgd:GdD x.e.dr kd) (hkd:kd+2*y.tms.l.length≤100000) (hE:EnvE w) (hg:nG≤g) (hr:RowN w y.tms.A 4 y.tms.l.length (cellsOf encTm y.tms.l)) (hnil:y.tms.A=none→y.tms.c=0) (hoff:∀ p,y.tms.A=some p→p.block≠g) (hl:y.tms.l.length≤1000) (hv:∀ t∈y.tms.l,t.value.size≤1000000) (hR:∀ t∈y.tms.l,KeyS t) :
 Calls Tryz.prog 66 #[.pointer (some ⟨g,0,none⟩),.agg #[.string y.file,.int .i64 y.line,.slice y.tms.A y.tms.l.length y.tms.c]] w (EvR w g c x (readE c.c x.e y.tms.l).1 (.bool (readE c.c x.e y.tms.l).2)):=by
 obtain ⟨fl,ln,⟨TA,tc,tl⟩⟩:=y
 dsimp only at hkd hr hnil hoff hl hv hR ⊢
 obtain ⟨w1,hw1⟩:∃ w1,w.alloc (.cells #[.string fl,.int .i64 ln,.slice TA tl.length tc] 44)=w1:=⟨_,rfl⟩
 have hb1:Below w.heap.size w w1:=by rw [←hw1];exact below_alloc _ _
 have hr1:w1.heap[w.heap.size]? = some (.cells #[.string fl,.int .i64 ln,.slice TA tl.length tc] 44 (0,0)):=by rw [←hw1];exact heap_alloc_new _ _
 have h1:=h.keep hb1
 have hld:=ldDev_at h1.box
 have hst:=stAb_at h1.box c.dev
 have hdo:∀ p,c.dev.ats.A=some p→p.block≠g:=fun p e=>h.offc c.dev.ats.A (List.mem_append_left _ (by simp)) p e
 obtain ⟨h2,g2⟩:=h1.abS (Below.refl _ _) c.dev h1.dev hdo
 obtain ⟨h3,g3⟩:=h2.reS false
 have q53:=cellOf (j:=53) h2.box rfl
 have f53:=frz h2.box 53
 have hgl:g<w.heap.size:=blk_lt' h.box
 obtain ⟨W2,hW2⟩:∃ W2,(w1.setRow g (evA c { x with ab:=c.dev })).setCell ⟨g,53,none⟩ (.bool false)=W2:=⟨_,rfl⟩
 have hs2:W2.heap.size=w1.heap.size:=by rw [←hW2];simp [World.setCell,World.setRow]
 have hs1:w1.heap.size=w.heap.size+1:=by rw [←hw1];simp
 rw [hW2] at h3 g3
 obtain ⟨x0,hx0⟩:∃ x0:Em,x0={ x with ab:=c.dev,re:=false }:=⟨_,rfl⟩
 have HO2:Hid (EvO W2 g c x0):=Lib.hid (by rw [hx0];exact h3)
 have HG2:Hid (w.grownBy W2 (some g)):=Lib.hid ((grown_below hb1 _).trans (g2.trans g3))
 have HX0:Hid (x0.e={ x.e with ab:=c.c.dev,re:=false }):=Lib.hid (by rw [hx0];rfl)
 have HF2:Hid (FrC c w x x0):=Lib.hid ⟨fun a ha _ _=>Or.inr (by rw [hx0] at ha;exact ha),fun a ha p e=>by
  rw [hx0] at ha
  rcases List.mem_append.1 ha with k1 | k1
  · exact Or.inr (Or.inl (List.mem_append_left _ k1))
  · rw [List.mem_singleton.1 k1];exact Or.inr (Or.inr (List.mem_append_left _ (by simp)))⟩
 have HRu:Hid (∀ W:World,W2.grownBy W (some g)→W.cell? ⟨w.heap.size,0,none⟩=some (.string fl)∧W.cell? ⟨w.heap.size,1,none⟩=some (.int .i64 ln)∧W.cell? ⟨w.heap.size,2,none⟩=some (.slice TA tl.length tc)):=Lib.hid fun W hW=>by
  have k1:w1.grownBy W2 (some g):=g2.trans g3
  have k2:=((k1.trans hW).block w.heap.size (blk_lt' hr1) (fun e=>by have:=Option.some.inj e;omega)).trans hr1
  exact ⟨cellOf k2 rfl,cellOf k2 rfl,cellOf k2 rfl⟩
 have HRw:Hid (∀ W:World,W2.grownBy W (some g)→RowN W TA 4 tl.length (cellsOf encTm tl)):=Lib.hid fun W hW=>(hr.keep hb1).grown ((g2.trans g3).trans hW) (fun p e k=>hoff p e (Option.some.inj k))
 have HEn:Hid (∀ W:World,W2.grownBy W (some g)→EnvE W):=Lib.hid fun W hW=>hE.grown (HG2.out.trans hW) hg
 have HZt:Hid (∀ (z:Em) (k:Nat),GdD z.e.dr k→k≤100000→z.e.ab∈dsD c.tds→EmZ c z k):=Lib.hid fun z k k1 k2 k3=>hz.z z k k1 k2 k3
 have HGd:Hid (GdD x0.e.dr kd):=Lib.hid (by rw [HX0.out];exact hgd)
 have HAb:Hid (x0.e.ab∈dsD c.tds):=Lib.hid (by rw [HX0.out];exact hz.dev)
 have HOk:=Lib.hid hz.ok
 have HV:=Lib.hid hv
 have hho:=(fun (W:World) (z:Em) (k:Nat) (t:Tm) (ht:t∈tl) (hW:W2.grownBy W (some g)) (ho:EvO W g c z) (k1:GdD z.e.dr k) (k2:k+1≤100000) (k3:z.e.ab∈dsD c.tds)=>EHolds_any g c z k t ⟨fl,ln,⟨TA,tc,tl⟩⟩ W ho (HZt.out z k k1 (by omega) k3) k2 (HEn.out W hW) hg (hv t ht) (HRw.out W hW) hnil hoff (by dsimp only;omega) hv (hR t ht))
 dsimp only at hho
 have HHo:=Lib.hid hho
 clear hho
 have HAs:=Lib.hid (fun (W:World) (z:Em) (k:Nat) (t:Tm) (ht:t∈tl) (hW:W2.grownBy W (some g)) (ho:EvO W g c z) (k1:GdD z.e.dr k) (k2:k+1≤100000) (k3:z.e.ab∈dsD c.tds)=>EAsg_any g c z k t W ho (HZt.out z k k1 (by omega) k3) (HEn.out W hW).toEnv (hv t ht) (hR t ht))
 have hlt2:w.heap.size<W2.heap.size:=by omega
 have HS2:=Lib.hid hs2
 have HS1:=Lib.hid hs1
 have HW1:=Lib.hid hw1
 have HW2:=Lib.hid hW2
 have HR1:=Lib.hid hr1
 clear h hz hgd hE hr hnil hoff hv hR hw1 hb1 h1 hdo h2 g2 h3 g3 hs2 hs1 hx0 hW2
 generalize hres:readE c.c x.e tl=RES
 have HRes:=Lib.hid hres
 clear hres
 obtain ⟨N,hN⟩:∃ N,tl.length=N:=⟨_,rfl⟩
 have HN:=Lib.hid hN
 rw [hN] at hkd hl ⊢
 rw [hN] at HRu HR1 HW1
 clear hN
 obtain ⟨q0,q1,q2,q3,q4,q5,q6,q7,q8,q9⟩:True∧True∧True∧True∧True∧True∧True∧True∧True∧True:=by simp
 go_enter Tryz.func66,Tryz.ntmps66
 go_upto_region 1 with fail
 rw [HW1.out]
 clear q0 q1 q2 q3 q4 q5 q6 q7 q8 q9
 unfold dvV at hld hst
 go_upto_region 3 with fail
 rw [HW2.out]
 clear hld hst q53 f53
 obtain ⟨r0,r1,r2⟩:=HRu.out W2 (World.grownBy.refl _ _)
 go_wp2
 clear r0 r1 r2
 go_loopg [5,7,8,9,25] N (fun gk s5 _ _ _ s25 wr=>∃ (k:Nat) (A:Option Addr) (cc:Nat) (xk:Em),s25=.int .i64 k∧k≤N∧k+gk=N∧s5=.slice A (chgK tl k).length cc∧Hid (wr.ownsRow W2.heap.size chgT 4 (.slice A (chgK tl k).length cc) (chgK tl k).length (cellsOf encTm (chgK tl k)))∧Hid (EvO wr g c xk)∧Hid (W2.grownBy wr (some g))∧Hid (matchE c.c tl (tl.drop k) xk.e=matchE c.c tl tl x0.e)∧Hid (GdD xk.e.dr (kd+k))∧Hid (xk.e.ab∈dsD c.tds)∧Hid (FrC c W2 x0 xk)∧Hid (∀ p,A=some p→OffG p.block xk.as))
 case atStart=>exact ⟨0,none,0,x0,rfl,Nat.zero_le _,by omega,rfl,Lib.hid (World.ownsRow_nil _ _ _ _),HO2,Lib.hid (World.grownBy.refl _ _),Lib.hid rfl,Lib.hid HGd.out,HAb,Lib.hid (Fr.same rfl rfl).c,Lib.hid (fun p e=>by cases e)⟩
 case round =>
  obtain ⟨k,A,cc,xk,rfl,hk,hkg,rfl,HO,HX,HG,HM,HGk,HAk,HFk,HAp⟩:=hrel
  by_cases hlt:k<N
  · have hlt':k<tl.length:=by rw [HN.out];exact hlt
    have hrow:=HRw.out wr HG.out
    obtain ⟨ba,off,rfl,c0,c1,c2,c3⟩:=hrow.row.tm (Below.refl _ _) hlt'
    have hbl:ba<wr.heap.size:=by have:=(hrow.pl _ rfl).2;exact this
    have hMk:=match_drop c.c tl hlt' xk.e
    rw [HM.out] at hMk
    have hck:=chgK_succ tl hlt'
    have hkt:=List.getElem_mem hlt'
    have HHk:=Lib.hid (fun (W:World) (hW:Below wr.heap.size wr W)=>HHo.out W xk (kd+k) tl[k] hkt (HG.out.trans (grown_below hW _)) (HX.out.keep hW) HGk.out (by omega) HAk.out)
    rw [HN.out] at HHk
    have HKd:=Lib.hid (fun (W:World)=>EKind_any tl[k] W)
    have hgood:=holds_good (c:=c.c) HOk.out tl HGk.out tl[k]
    have habk:=holds_ab (c:=c.c) (l:=tl) (t:=tl[k]) (x:=xk.e) HAk.out
    have hcl:=chgK_len tl k
    generalize tl[k]=t at *
    obtain ⟨ky,nmm,op,vl⟩:=t
    dsimp only at hMk hck HHk hgood habk
    unfold tmV at *
    cases hm:matchB op with
    | true =>
      rw [hm,if_pos rfl] at hMk hck
      have hkv:kindV ⟨ky,nmm,op,vl⟩=.iface conT (.agg #[.int .i64 ky,.string nmm,.int .i64 op,.string vl]):=by unfold kindV;rw [hm];rfl
      rw [hkv] at HKd
      clear hkv hm
      generalize hhd:holdsE c.c tl xk.e ⟨ky,nmm,op,vl⟩=hd at *
      obtain ⟨ev,bb⟩:=hd
      dsimp only at hMk HHk hgood habk
      have HMk:=Lib.hid hMk
      have HCk:=Lib.hid hck
      have HGo:=Lib.hid hgood
      have HAb2:=Lib.hid habk
      clear hMk hck hgood habk hhd hkt hrow hlt' HHo HAs HZt HEn
      cases bb with
      | false =>
        go_wp2_with (first
         | (go_at_call 85;refine (HKd.out _).mono ?_;rintro e w3 ⟨rfl,hb3⟩;have HB3:=Lib.hid (bt (below_alloc wr _) hb3:Below wr.heap.size wr w3);have HG3:=Lib.hid (HG.out.trans (grown_below HB3.out (some g)));have ha:=assert_con w3 (.agg #[.int .i64 ky,.string nmm,.int .i64 op,.string vl]);obtain ⟨r0,r1,r2⟩:=HRu.out w3 HG3.out;(have hlw3:w.heap.size<w3.heap.size:=Nat.lt_of_lt_of_le hlt2 HG3.out.size);clear hb3)
         | (go_at_call 86;refine (HHk.out _ (bAl HB3.out)).mono ?_;rintro e w4 ⟨x4,rfl,hx4,h4,g4,f4⟩;have HX4:=Lib.hid hx4;have HO4:=Lib.hid h4;have HG4:=Lib.hid (HG2.out.trans (HG3.out.trans ((grown_below (below_alloc w3 _) _).trans g4)));have HF4:=Lib.hid (HF2.out.trans (HFk.out.trans (FrC.trans (Fr.same rfl rfl).c f4.c (Nat.le_trans HG.out.size (Nat.le_trans HB3.out.size (below_alloc w3 _).size))) (Nat.le_refl _)) HG2.out.size);clear hx4 h4 g4 f4))
        go_ret
        have e9:=HMk.out
        rw [if_neg (by simp)] at e9
        rw [HX0.out] at e9
        have e8:=readE_no e9
        rw [HRes.out] at e8
        rw [e8]
        exact ⟨x4,rfl,HX4.out,HO4.out,HG4.out,HF4.out⟩
      | true =>
        go_wp2_with (first
         | (go_at_call 85;refine (HKd.out _).mono ?_;rintro e w3 ⟨rfl,hb3⟩;have HB3:=Lib.hid (bt (below_alloc wr _) hb3:Below wr.heap.size wr w3);have HG3:=Lib.hid (HG.out.trans (grown_below HB3.out (some g)));have ha:=assert_con w3 (.agg #[.int .i64 ky,.string nmm,.int .i64 op,.string vl]);obtain ⟨r0,r1,r2⟩:=HRu.out w3 HG3.out;(have hlw3:w.heap.size<w3.heap.size:=Nat.lt_of_lt_of_le hlt2 HG3.out.size);clear hb3)
         | (go_at_call 86;refine (HHk.out _ (bAl HB3.out)).mono ?_;rintro e w4 ⟨x4,rfl,hx4,h4,g4,f4⟩;have HX4:=Lib.hid hx4;have HO4:=Lib.hid h4;have HG4:=Lib.hid (HG3.out.trans ((grown_below (below_alloc w3 _) _).trans g4));have HGr:=Lib.hid ((grown_below (bAl HB3.out) (some g)).trans g4);have HF4:=Lib.hid f4;clear hx4 h4 g4 f4))
        go_roundg (gk - 1)
        case measure=>omega
        case rel =>
         have e9:=HMk.out
         rw [if_pos trivial,←HX4.out] at e9
         have hsz:wr.heap.size≤(w3.alloc (.cells #[.int .i64 ky,.string nmm,.int .i64 op,.string vl] conT)).heap.size:=Nat.le_trans HB3.out.size (below_alloc w3 _).size
         refine ⟨k+1,A,cc,x4,by go_num,by omega,by omega,by rw [HCk.out],?_,HO4,HG4,Lib.hid e9.symm,Lib.hid (by rw [HX4.out,←Nat.add_assoc];exact HGo.out),Lib.hid (by rw [HX4.out];exact HAb2.out),Lib.hid (HFk.out.trans HF4.out.c (Nat.le_trans HG.out.size hsz)),Lib.hid (fun p e b hb q eq=>?_)⟩
         · rw [HCk.out]
           refine Lib.hid (own_off HO.out HGr.out (fun j ej hv=>?_))
           have k1:=(HO.out.lt _ hv).1
           have k2:=Option.some.inj ej
           omega
         · have hp:=own_rng HO.out p e
           rcases HF4.out.a b hb q eq with k1 | k1
           · have k2:=Nat.le_trans hsz k1
             omega
           · exact HAp.out p e b k1 q eq
    | false =>
      rw [hm,if_neg (by simp)] at hMk hck
      have hkv:kindV ⟨ky,nmm,op,vl⟩=.iface chgT (.agg #[.int .i64 ky,.string nmm,.int .i64 op,.string vl]):=by unfold kindV;rw [hm];rfl
      rw [hkv] at HKd
      have HMk:=Lib.hid hMk
      have HCk:=Lib.hid hck
      have HAp2:=Lib.hid (fun (W:World) (hW:Below wr.heap.size wr W)=>app_chg (B:=W2.heap.size) (A:=A) (c:=cc) (l:=chgK tl k) ⟨ky,nmm,op,vl⟩ W (own_below2 HO.out hW) (by omega) (Nat.le_trans HG.out.size hW.size))
      clear hkv hm hMk hck hgood habk hkt hrow hlt' HHo HAs HZt HEn HHk
      go_upto_region 13 with (go_at_call 85;refine (HKd.out _).mono ?_;rintro e w3 ⟨rfl,hb3⟩;have HB3:=Lib.hid (bt (below_alloc wr _) hb3:Below wr.heap.size wr w3);have HG3:=Lib.hid (HG.out.trans (grown_below HB3.out (some g)));have ha:=assert_con_no w3 (.agg #[.int .i64 ky,.string nmm,.int .i64 op,.string vl]);have hb:=assert_chg w3 (.agg #[.int .i64 ky,.string nmm,.int .i64 op,.string vl]);obtain ⟨r0,r1,r2⟩:=HRu.out w3 HG3.out;(have hlw3:w.heap.size<w3.heap.size:=Nat.lt_of_lt_of_le hlt2 HG3.out.size);clear hb3)
      obtain ⟨A6,c6,w6,hap,hown,hgr,hat⟩:=HAp2.out (w3.alloc (.cells #[.int .i64 ky,.string nmm,.int .i64 op,.string vl] chgT)) (bAl HB3.out)
      simp only [World.size_alloc] at hap
      have HO6:=Lib.hid hown
      have HGr:=Lib.hid hgr
      have HAt:=Lib.hid hat
      clear hown hgr hat HAp2
      go_wp2
      go_roundg (gk - 1)
      case measure=>omega
      case rel =>
       have e9:=HMk.out
       have hl9:(chgK tl (k+1)).length=(chgK tl k).length+1:=by rw [HCk.out];simp
       have hB3:Below wr.heap.size wr (w3.alloc (.cells #[.int .i64 ky,.string nmm,.int .i64 op,.string vl] chgT)):=bAl HB3.out
       have hX3:=HX.out.keep hB3
       have hown9:∀ b,(Value.slice A (chgK tl k).length cc).ownBlock=some b→W2.heap.size≤b∧b<wr.heap.size∧∃ p,A=some p∧p.block=b:=fun b hb=>by
        obtain ⟨p,e1,e2⟩:=slice_own hb
        have:=own_rng HO.out p e1
        rw [←e2]
        exact ⟨this.1,this.2,p,e1,rfl⟩
       have hgW2:g<W2.heap.size:=by have:=HS2.out;have:=HS1.out;omega
       have hX6:EvO w6 g c xk:=hX3.away HGr.out (fun b hb=>by
        obtain ⟨k1,k2,p,k3,k4⟩:=hown9 b hb
        refine ⟨by omega,fun a ha q e k5=>?_,?_⟩
        · have:=HO2.out.lowc a ha q e;omega
        · rw [←k4];exact HAp.out p k3)
       refine ⟨k+1,A6,c6,xk,by go_num,by omega,by omega,by rw [hl9],?_,hX6,?_,Lib.hid e9.symm,Lib.hid (HGk.out.mono (by omega)),HAk,HFk,Lib.hid (fun p e b hb q eq=>?_)⟩
       · rw [hl9,HCk.out];exact HO6
       · exact Lib.hid (grown_far (HG.out.trans (grown_below hB3 _)) HGr.out (fun j ej=>Or.inl (hown9 j ej).1))
       · rcases HAt.out p e with k1 | ⟨q0,k1,k2⟩
         · have k3:=HX.out.lowx b hb q eq
           have k4:=hB3.size
           omega
         · rw [←k2];exact HAp.out q0 k1 b hb q eq
  · obtain rfl:k=N:=by omega
    have hMe:=HM.out
    rw [show tl.drop k=tl.drop tl.length by rw [HN.out],match_end] at hMe
    have hcs:chgK tl k=chgK tl tl.length:=by rw [HN.out]
    have HYes:=Lib.hid (readE_yes (c:=c.c) (x:=x.e) (l:=tl) (z:=xk.e) (by rw [←HX0.out];exact hMe.symm))
    rw [HRes.out,←hcs] at HYes
    have hcl:=chgK_len tl k
    have HMem:=Lib.hid (fun t (ht:t∈chgK tl k)=>chgK_mem ht)
    generalize chgK tl k=cs at *
    clear hMe hcs HM HHo
    obtain ⟨M,hM⟩:∃ M,cs.length=M:=⟨_,rfl⟩
    have HMl:=Lib.hid hM
    rw [hM] at hcl ⊢
    clear hM
    obtain ⟨wm,rfl⟩:∃ wm:World,wm=wr:=⟨_,rfl⟩
    have hgW2:g<W2.heap.size:=by have:=HS2.out;have:=HS1.out;omega
    have hown9:∀ b,(Value.slice A cs.length cc).ownBlock=some b→g<b:=fun b hb=>by
     obtain ⟨p,e1,e2⟩:=slice_own hb
     have:=own_rng HO.out p e1
     rw [←e2];omega
    have HOw:Hid (∀ W:World,wm.grownBy W (some g)→W.ownsRow W2.heap.size chgT 4 (.slice A cs.length cc) cs.length (cellsOf encTm cs)):=Lib.hid fun W hW=>own_off HO.out hW (fun j ej hv=>by
     have k1:=hown9 _ hv
     have k2:=Option.some.inj ej
     omega)
    clear hown9
    unfold tmV at HAs
    go_wp2
    go_loopg [11,49] M (fun gk _ s49 wr=>∃ (j:Nat) (xj:Em),s49=.int .i64 j∧j≤M∧j+gk=M∧Hid (EvO wr g c xj)∧Hid (wm.grownBy wr (some g))∧Hid (xj.e=(cs.take j).foldl (asgE c.c) xk.e)∧Hid (GdD xj.e.dr (kd+k+j))∧Hid (FrC c W2 x0 xj))
    case atStart=>exact ⟨0,xk,rfl,Nat.zero_le _,by omega,HX,Lib.hid (World.grownBy.refl _ _),Lib.hid rfl,HGk,HFk⟩
    case round =>
     obtain ⟨j,xj,rfl,hj,hjg,HXj,HGj,HEj,HDj,HFj⟩:=hrel
     by_cases hjt:j<M
     · have hj':j<cs.length:=by rw [HMl.out];exact hjt
       have hown:=HOw.out wr HGj.out
       obtain ⟨ba,off,rfl,c0,c1,c2,c3⟩:=(RowAt.of_own hown).tm (Below.refl _ _) hj'
       have hbl:ba<wr.heap.size:=(own_rng hown _ rfl).2
       have hjI:(j:Int)<(M:Int):=by omega
       have hAb:xj.e.ab∈dsD c.tds:=by rw [HEj.out,asgs_ab];exact HAk.out
       have HAt:=Lib.hid (fun (W:World) (hW:Below wr.heap.size wr W)=>HAs.out W xj (kd+k+j) cs[j] (HMem.out _ (List.getElem_mem hj')) ((HG.out.trans HGj.out).trans (grown_below hW _)) (HXj.out.keep hW) HDj.out (by omega) hAb)
       have HNx:=Lib.hid (fold_asg c.c cs xk.e hj')
       have HGd2:=Lib.hid (asg_good (c:=c.c) HDj.out cs[j] (HV.out _ (HMem.out _ (List.getElem_mem hj'))))
       rw [←HEj.out] at HNx
       generalize cs[j]=t at *
       obtain ⟨ky,nmm,op,vl⟩:=t
       dsimp only at c0 c1 c2 c3 HAt
       clear hown hj' hAb HAs
       go_wp2_with (go_at_call 87;refine (HAt.out _ (below_alloc _ _)).mono ?_;rintro e w4 ⟨x4,rfl,hx4,h4,g4,f4⟩;have HX4:=Lib.hid hx4;have HO4:=Lib.hid h4;have HG4:=Lib.hid ((grown_below (below_alloc wr _) (some g)).trans g4);have HF4:=Lib.hid (FrC.trans (Fr.same rfl rfl).c f4.c (below_alloc wr _).size:FrC c wr xj x4);clear hx4 h4 g4 f4)
       go_roundg (gk - 1)
       case measure=>omega
       case rel =>
        exact ⟨j+1,x4,by go_num,by omega,by omega,HO4,Lib.hid (HGj.out.trans HG4.out),Lib.hid (by rw [HX4.out,HNx.out]),Lib.hid (by rw [HX4.out];exact HGd2.out),Lib.hid (HFj.out.trans HF4.out (HG.out.trans HGj.out).size)⟩
     · obtain rfl:j=M:=by omega
       go_wp2
       go_ret
       have e9:=HEj.out
       rw [show cs.take j=cs by rw [←HMl.out,List.take_length]] at e9
       rw [HYes.out]
       exact ⟨xj,rfl,e9,HXj.out,HG2.out.trans (HG.out.trans HGj.out),HF2.out.trans HFj.out HG2.out.size⟩
end
section
open Go.RowKit
structure InZ (c:EmC):Prop where
 ok:InOk c.i
 dv:∀ d∈dsD c.tds,DdI d∧d.sb.size≤1000∧d.dr.size≤1000 ∧ -9223372036854775808≤d.nb∧d.nb≤9223372036854775807∧∀ a∈d.ats,a.val.size≤1000000
 wf:WfT (dsD c.tds)
 tl:c.tds.length≤100
 ix1 : -9223372036854775808≤c.ix
 ix2:c.ix≤9223372036854775807
 hl:c.hs.l.length≤1000
 hc:∀ y∈c.hs.l,y.cmd.size≤1000000
 act:c.act.size≤1000000
 pl:c.r.props.l.length≤1000
 pz:∀ y∈c.r.props.l,y.name.size≤1000000
 al:∀ d∈dsD c.tds,d.al.size≤1000000
def EmC.w (c:EmC) (d:Dv) (o p:ByteArray):EmC:={ c with dev:=d,org:=o,pnt:=p }
theorem flat_len1 (c d:UInt8) (s:Str):(s.flatMap fun b=>if b=c then [d] else [b]).length=s.length:=by
 induction s with
 | nil=>rfl
 | cons b r ih =>
   rw [List.flatMap_cons,List.length_append,ih,List.length_cons]
   split <;> simp <;> omega
theorem node_size {d:Dd} {s:ByteArray} (h:nodeB d=some s):s.size=d.og.size:=by
 unfold nodeB at h
 split at h
 · rw [←Option.some.inj h,size_bs,replaceAll1 _ _ _ (by decide),flat_len1,len_L]
 · cases h
theorem pnt_size {l:List Dd} {d:Dd} (h:∀ x∈l,x.og.size≤1000):(pntS l d).size≤1000:=by
 unfold pntS
 split
 · rename_i p hp
   cases hn:nodeB p with
   | none=>exact Nat.zero_le _
   | some s=>show s.size≤1000;rw [node_size hn];exact h p (findD_some hp).1
 · exact Nat.zero_le _
def BegP (c:EmC) (w:World) (e:Ending) (w':World):Prop:=match findD (dsD c.tds) c.ix with
 | none=>e=.returned (.tuple #[.pointer none,.int .i64 150])∧Below w.heap.size w w'
 | some d=>∃ g dv x0,e=.returned (.tuple #[.pointer (some ⟨g,0,none⟩),.int .i64 0])∧dv.d=d∧x0.e=evS ⟨c.i,d,orgB (dsD c.tds) c.ix,pntS (dsD c.tds) d⟩∧EvO w' g (c.w dv (orgB (dsD c.tds) c.ix) (pntS (dsD c.tds) d)) x0∧w.heap.size≤g∧(∀ a∈x0.dr.as,∀ p,a=some p→w.heap.size≤p.block)∧Below w.heap.size w w'
theorem bu_ev (parts:Array (Nat × Value)):Instr.build evT parts=buG evT parts:=by unfold buG;rfl
theorem ev_build (c:EmC) (x:Dm) (d:Dv) (W:World):(buG evT #[(0,.agg (drA x)),(1,.agg (inA c)),(2,.agg (dvA d))]).run Tryz.prog W=.ok (.agg (evA (c.w d ⟨#[]⟩ ⟨#[]⟩) ⟨x,dv0,false⟩)) W:=by
 unfold buG
 exact run_build W _ _ _ (by kernel_rfl)
theorem ld_inp (v:Value):Instr.loadAt inpT v=ldG inpT v:=by unfold ldG;rfl
theorem ldInp_at {w:World} {g:Nat} {c:EmC} (h:w.heap[g]? = some (.cells (inA c) inpT (0,0))):(ldG inpT (.pointer (some ⟨g,0,none⟩))).run Tryz.prog w=.ok (.agg (inA c)) w :=
by
 have h1:=ldG_at (P:=Tryz.prog) (w:=w) (T:=inpT) (n:=17) (g:=g) (o:=0) (cs:=inA c) (by exact Tryz.isAgg37) (by exact Tryz.sizeOf37) h (by show 0+17≤17;omega)
 rw [show (inA c).extract 0 (0+17)=inA c from by kernel_rfl] at h1
 exact h1
theorem EvO.orgS {w:World} {g:Nat} {c:EmC} {x:Em} (h:EvO w g c x) (s:ByteArray):EvO (w.setCell ⟨g,41,none⟩ (.string s)) g (c.w c.dev s c.pnt) x∧w.grownBy (w.setCell ⟨g,41,none⟩ (.string s)) (some g):=by
 have gs:=grown_set w g 41 (.string s)
 have h2:=h.inp.grown gs h.offc
 have h1:=(EmC.mem h.offc).1
 refine ⟨⟨?_,⟨h2.tr,h2.rc,h2.hp⟩,h.dev.grown gs (offN h1 (by simp)),h.dr.grown gs (fun a ha=>h.offx a (List.mem_append_left _ ha)),h.ab.grown gs (offN h.offx (List.mem_append_right _ (by simp))),h.offc,h.offx⟩,gs⟩
 rw [setCell_row h.box,show (evA c x).setIfInBounds 41 (.string s)=evA (c.w c.dev s c.pnt) x from by kernel_rfl]
 exact setRow_heap _ _ _ _ _ _ h.box
theorem EvO.pntS {w:World} {g:Nat} {c:EmC} {x:Em} (h:EvO w g c x) (s:ByteArray):EvO (w.setCell ⟨g,42,none⟩ (.string s)) g (c.w c.dev c.org s) x∧w.grownBy (w.setCell ⟨g,42,none⟩ (.string s)) (some g):=by
 have gs:=grown_set w g 42 (.string s)
 have h2:=h.inp.grown gs h.offc
 have h1:=(EmC.mem h.offc).1
 refine ⟨⟨?_,⟨h2.tr,h2.rc,h2.hp⟩,h.dev.grown gs (offN h1 (by simp)),h.dr.grown gs (fun a ha=>h.offx a (List.mem_append_left _ ha)),h.ab.grown gs (offN h.offx (List.mem_append_right _ (by simp))),h.offc,h.offx⟩,gs⟩
 rw [setCell_row h.box,show (evA c x).setIfInBounds 42 (.string s)=evA (c.w c.dev c.org s) x from by kernel_rfl]
 exact setRow_heap _ _ _ _ _ _ h.box
theorem ev_new {w:World} {c:EmC} {d:Dv} {x:Dm} (hi:InM w c) (hd:DvN w d) {B:Nat} (hx:DmO B w x):EvO (w.alloc (.cells (evA (c.w d ⟨#[]⟩ ⟨#[]⟩) ⟨x,dv0,false⟩) evT)) w.heap.size (c.w d ⟨#[]⟩ ⟨#[]⟩) ⟨x,dv0,false⟩:=by
 have hb:=below_alloc w (.cells (evA (c.w d ⟨#[]⟩ ⟨#[]⟩) ⟨x,dv0,false⟩) evT)
 have hn:=hx.n
 refine ⟨heap_alloc_new _ _,⟨(hi.keep hb).tr,(hi.keep hb).rc,(hi.keep hb).hp⟩,hd.keep hb,hn.keep hb,RowN.nil,fun a ha p e=>?_,fun a ha p e=>?_⟩
 · subst e
   refine Nat.ne_of_lt ?_
   rcases List.mem_append.1 ha with h1 | h1
   · simp only [List.mem_cons,List.not_mem_nil,or_false] at h1
     rcases h1 with h1 | h1 | h1 | h1 | h1 | h1 | h1 | h1
     · exact (hi.tr.row.pl p h1.symm).2
     · exact (hi.rc.pr.row.pl p h1.symm).2
     · exact (hi.rc.tg.row.pl p h1.symm).2
     · exact (hi.rc.lk.row.pl p h1.symm).2
     · exact (hi.rc.rn.row.pl p h1.symm).2
     · exact (hi.rc.ld.row.pl p h1.symm).2
     · exact (hi.hp.row.pl p h1.symm).2
     · exact (hd.pl p h1.symm).2
   · obtain ⟨z,hz,h2⟩:=List.mem_map.1 h1
     exact ((hi.tr.inn z hz).pl p h2).2
 · subst e
   refine Nat.ne_of_lt ?_
   rcases List.mem_append.1 ha with h1 | h1
   · simp only [Dm.as,List.mem_cons,List.not_mem_nil,or_false] at h1
     rcases h1 with h1 | h1 | h1 | h1 | h1 | h1
     · exact (hn.pr.row.pl p h1.symm).2
     · exact (hn.tg.row.pl p h1.symm).2
     · exact (hn.lk.row.pl p h1.symm).2
     · exact (hn.rn.row.pl p h1.symm).2
     · exact (hn.ld.row.pl p h1.symm).2
     · exact (hn.cl.row.pl p h1.symm).2
   · cases (List.mem_singleton.1 h1)
theorem setN_len (l:List At) (k v:ByteArray):(setN l k v).length≤l.length+1:=by
 unfold setN
 split
 · omega
 · exact len_setP _ _
theorem base_len (l:List Dd) (n:Int):(baseS l n).length≤1000:=by
 unfold baseS
 split
 · rename_i d _
   have key:∀ (a:List At) (o:Option ByteArray),a.length≤4→(if d.kd=4 then setN (match o with | some v=>setN (setN a kDevname v) kNumber (bs (Lib.itoa d.nb)) | none=>a) kIface d.og else (match o with | some v=>setN (setN a kDevname v) kNumber (bs (Lib.itoa d.nb)) | none=>a)).length≤7:=by
    intro a o ha
    cases o with
    | none =>
      dsimp only
      split
      · have:=setN_len a kIface d.og;omega
      · omega
    | some v =>
      dsimp only
      have h1:=setN_len a kDevname v
      have h2:=setN_len (setN a kDevname v) kNumber (bs (Lib.itoa d.nb))
      split
      · have:=setN_len (setN (setN a kDevname v) kNumber (bs (Lib.itoa d.nb))) kIface d.og;omega
      · omega
   have h4:(setN (setN (setN (setN [] kDevpath (orgB l n)) kSubsys d.sb) kDriver d.dr) kModal d.al).length≤4 :=
    Nat.le_trans (setN_len _ _ _) (Nat.succ_le_succ (Nat.le_trans (setN_len _ _ _) (Nat.succ_le_succ (Nat.le_trans (setN_len _ _ _) (Nat.succ_le_succ (setN_len _ _ _))))))
   exact Nat.le_trans (key _ (nodeB d) h4) (by decide)
 · exact Nat.zero_le _
theorem ldDv_at {w:World} {g:Nat} {d:Dv} (h:w.heap[g]? = some (.cells (dvA d) devT (0,0))):(ldG devT (.pointer (some ⟨g,0,none⟩))).run Tryz.prog w=.ok (.agg (dvA d)) w :=
 ldG_at (P:=Tryz.prog) (w:=w) (T:=devT) (n:=10) (g:=g) (o:=0) (cs:=dvA d) (by exact Tryz.isAgg67) (by exact Tryz.sizeOf67) h (by show 0+10≤10;omega)
attribute [local go_sem ↓] bu_ev ld_inp ld_dev
set_option maxHeartbeats 2000000 in
theorem EBegin_any (c:EmC) (w:World) (h:InM w c) (hz:InZ c) (hE:Env0 w) :
 Calls Tryz.prog 65 #[.agg (inA c)] w (BegP c w):=by
 obtain ⟨w1,hw1⟩:∃ w1,w.alloc (.cells (inA c) inpT)=w1:=⟨_,rfl⟩
 have hb1:Below w.heap.size w w1:=by rw [←hw1];exact below_alloc _ _
 have hr1:w1.heap[w.heap.size]? = some (.cells (inA c) inpT (0,0)):=by rw [←hw1];exact heap_alloc_new _ _
 have hs1:w1.heap.size=w.heap.size+1:=by rw [←hw1];simp
 have HIn:Hid (∀ W:World,Below w1.heap.size w1 W→W.cell? ⟨w.heap.size,1,none⟩=some (.slice c.tA c.tds.length c.tc)∧W.cell? ⟨w.heap.size,2,none⟩=some (.int .i64 c.ix)∧(ldG inpT (.pointer (some ⟨w.heap.size,0,none⟩))).run Tryz.prog W=.ok (.agg (inA c)) W):=Lib.hid fun W hW=>by
  have h2:=(hW.block _ (blk_lt' hr1)).trans hr1
  exact ⟨cellOf h2 rfl,cellOf h2 rfl,ldInp_at h2⟩
 have HFd:=Lib.hid (fun (n:Int) (W:World) (hW:Below w.heap.size w W)=>Find_any c.tA c.tc c.tds n W (h.tr.keep hW))
 have hlW:w.heap.size<w1.heap.size:=by omega
 have HW1:=Lib.hid hw1
 have HB1:=Lib.hid hb1
 have HR1:=Lib.hid hr1
 have HH:=Lib.hid h
 have HZ:=Lib.hid hz
 have HE:=Lib.hid hE
 clear h hz hE hw1 hb1 hr1 hs1
 unfold BegP
 have hx:inA c=#[.string c.act,.slice c.tA c.tds.length c.tc,.int .i64 c.ix,.string c.r.path,.int .i64 c.r.ix,.slice c.r.props.A c.r.props.l.length c.r.props.c,.slice c.r.tags.A c.r.tags.l.length c.r.tags.c,.slice c.r.links.A c.r.links.l.length c.r.links.c,.slice c.r.run.A c.r.run.l.length c.r.run.c,.slice c.r.load.A c.r.load.l.length c.r.load.c,.string c.r.nam,.int .i64 c.r.prio,.string c.r.own,.string c.r.grp,.int .i64 c.r.mode,.slice c.hs.A c.hs.l.length c.hs.c,.int .i64 c.lim]:=rfl
 rw [hx] at HW1 ⊢
 clear hx
 cases hf:findD (dsD c.tds) c.ix with
 | none =>
   have HF1:=Lib.hid (HFd.out c.ix w1 HB1.out)
   rw [hf] at HF1
   unfold FindP trV dvV at HF1
   dsimp only at HF1
   clear HFd hf
   go_enter Tryz.func65,Tryz.ntmps65
   go_upto_region 1 with fail
   rw [HW1.out]
   obtain ⟨c1,c2,_⟩:=HIn.out w1 (Below.refl _ _)
   go_wp2_with (go_at_call 29;refine HF1.out.mono ?_;rintro e w2 ⟨rfl,hb2⟩)
   go_ret2
   exact ⟨rfl,bt HB1.out (bAl hb2)⟩
 | some d =>
   have HF1:=Lib.hid (HFd.out c.ix w1 HB1.out)
   rw [hf] at HF1
   have HFs:=Lib.hid hf
   unfold FindP trV at HF1
   dsimp only at HF1
   clear hf
   go_enter Tryz.func65,Tryz.ntmps65
   go_upto_region 1 with fail
   rw [HW1.out]
   obtain ⟨c1,c2,_⟩:=HIn.out w1 (Below.refl _ _)
   go_upto_region 4 with (go_at_call 29;refine HF1.out.mono ?_;rintro e w2 ⟨dv,rfl,hd1,hd2,hd3,hb2⟩;unfold dvV)
   obtain ⟨w3,hw3⟩:∃ w3,w2.alloc (.cells (dvA dv) devT)=w3:=⟨_,rfl⟩
   have hr3:w3.heap[w2.heap.size]? = some (.cells (dvA dv) devT (0,0)):=by rw [←hw3];exact heap_alloc_new _ _
   have hb3:Below w2.heap.size w2 w3:=by rw [←hw3];exact below_alloc _ _
   have HW3:=Lib.hid hw3
   unfold dvA at HW3
   rw [HW3.out]
   have HB3:=Lib.hid (bt hb2 hb3:Below w1.heap.size w1 w3)
   have HR3:=Lib.hid hr3
   have HD1:=Lib.hid hd1
   have HD2:=Lib.hid (hd2.keep hb3)
   have HQ:Hid (∀ W:World,Below w3.heap.size w3 W→(W.cell? ⟨w.heap.size,1,none⟩=some (.slice c.tA c.tds.length c.tc)∧W.cell? ⟨w.heap.size,2,none⟩=some (.int .i64 c.ix)∧(ldG inpT (.pointer (some ⟨w.heap.size,0,none⟩))).run Tryz.prog W=.ok (.agg (inA c)) W)∧(ldG devT (.pointer (some ⟨w2.heap.size,0,none⟩))).run Tryz.prog W=.ok (.agg (dvA dv)) W):=Lib.hid fun W hW=>⟨HIn.out W (bt HB3.out hW),ldDv_at ((hW.block _ (blk_lt' hr3)).trans hr3)⟩
   have HBs:=Lib.hid (fun (W:World) (hW:Below w.heap.size w W)=>Base_any c.tA c.tc c.tds c.ix W (HH.out.tr.keep hW) (fun d hd=>(HZ.out.dv d hd).1) HZ.out.ix1 HZ.out.ix2 (HE.out.go hW) (fun d hd=>⟨(HZ.out.dv d hd).2.2.2.1,(HZ.out.dv d hd).2.2.2.2.1⟩))
   have hBl:=base_len (dsD c.tds) c.ix
   unfold trV at HBs
   have hbd:=fun (x:Dm) (W:World)=>ev_build c x dv W
   clear hw3 hr3 hb3 hd1 hd2 hd3 hb2 c1 c2
   go_region_held3 (fun W=>(W.cell? ⟨w.heap.size,1,none⟩=some (.slice c.tA c.tds.length c.tc)∧W.cell? ⟨w.heap.size,2,none⟩=some (.int .i64 c.ix)∧(ldG inpT (.pointer (some ⟨w.heap.size,0,none⟩))).run Tryz.prog W=.ok (.agg (inA c)) W)∧(ldG devT (.pointer (some ⟨w2.heap.size,0,none⟩))).run Tryz.prog W=.ok (.agg (dvA dv)) W) ((refine HQ.out _ ?_;first | exact (Below.refl _ _).drew | exact bAl hB5 | exact hB5 | exact hB4)) ((first
    | (go_at_call 11;refine (HBs.out w3.drew (bt HB1.out (bt HB3.out (Below.refl _ _).drew))).mono ?_;rintro e w4 ⟨BA,bc,rfl,hls,hb4⟩;(have hB4:Below w3.heap.size w3 w4:=bt (Below.refl _ _).drew hb4))
    | (go_at_call 10;refine (Begin_any ⟨BA,bc,baseS (dsD c.tds) c.ix⟩ w4 hls hBl).mono ?_;rintro e w5 ⟨x,rfl,hxd,hxo,hb5⟩;(have hB5:Below w3.heap.size w3 w5:=bt hB4 hb5))))
   have H6:=Lib.hid (ev_new (HH.out.keep (bt HB1.out (bt HB3.out hB5))) (HD2.out.keep hB5) hxo)
   have HB6:=Lib.hid (bAl hB5:Below w3.heap.size w3 (w5.alloc (.cells (evA (c.w dv ⟨#[]⟩ ⟨#[]⟩) ⟨x,dv0,false⟩) evT)))
   have HXd:=Lib.hid hxd
   have HLo:Hid (∀ a∈x.as,∀ p,a=some p→w.heap.size≤p.block):=Lib.hid fun a ha p e=>by
    have k1:=hxo.lo a ha p e
    have k2:=hB4.size
    have k3:=HB3.out.size
    have k4:=HB1.out.size
    omega
   obtain ⟨w6,hw6⟩:∃ w6,w5.alloc (.cells (evA (c.w dv ⟨#[]⟩ ⟨#[]⟩) ⟨x,dv0,false⟩) evT)=w6:=⟨_,rfl⟩
   rw [hw6] at H6 HB6 ⊢
   have hg6:w3.heap.size≤w5.heap.size:=hB5.size
   have HG6:=Lib.hid hg6
   generalize w5.heap.size=g at *
   clear hw6 hbd hB5 hB4 hb5 hb4 hxo hxd hls hg6
   obtain ⟨⟨c1,c2,_⟩,_⟩:=HQ.out w6 HB6.out
   have hlw6:w.heap.size<w6.heap.size:=Nat.lt_of_lt_of_le hlW (bt HB3.out HB6.out).size
   have HK:Hid (∀ W:World,w6.grownBy W (some g)→W.cell? ⟨w.heap.size,1,none⟩=some (.slice c.tA c.tds.length c.tc)∧W.cell? ⟨w.heap.size,2,none⟩=some (.int .i64 c.ix)∧W.cell? ⟨w2.heap.size,1,none⟩=some (.int .i64 dv.pa)):=Lib.hid fun W hW=>by
    have k0:=blk_lt' HR3.out
    have k1:w1.heap.size≤w3.heap.size:=HB3.out.size
    have k2:w3.heap.size≤w6.heap.size:=HB6.out.size
    have k3:=HG6.out
    have h1:=((hW.block w.heap.size hlw6 (fun e=>by have:=Option.some.inj e;omega)).trans ((bt HB3.out HB6.out).block _ hlW)).trans HR1.out
    have h2:=((hW.block w2.heap.size (by omega) (fun e=>by have:=Option.some.inj e;omega)).trans (HB6.out.block _ k0)).trans HR3.out
    exact ⟨cellOf h1 rfl,cellOf h1 rfl,cellOf h2 rfl⟩
   have HOr:=Lib.hid (Origin_any c.tA c.tc c.tds c.ix w6 (HH.out.tr.keep (bt HB1.out (bt HB3.out HB6.out))) (fun d hd=>(HZ.out.dv d hd).1) HZ.out.ix1 HZ.out.ix2)
   unfold trV at HOr
   obtain ⟨on,hon⟩:∃ on,orgB (dsD c.tds) c.ix=on:=⟨_,rfl⟩
   rw [hon] at HOr
   have HOn:=Lib.hid hon
   clear hon
   go_upto_region 6 with (go_at_call 31;refine HOr.out.mono ?_;rintro e w7 ⟨rfl,hb7⟩;have h7:=H6.out.keep hb7;have HB7:=Lib.hid hb7;have q41:=cellOf (j:=41) h7.box rfl;have f41:=frz h7.box 41;obtain ⟨h8,g8⟩:=h7.orgS on;have H8:=Lib.hid h8;have HG8:=Lib.hid ((grown_below hb7 (some g)).trans g8);clear h7 h8 g8 hb7)
   obtain ⟨w8,hw8⟩:∃ w8,w7.setCell ⟨g,41,none⟩ (.string on)=w8:=⟨_,rfl⟩
   rw [hw8] at H8 HG8 ⊢
   clear hw8 q41 f41 c1 c2
   obtain ⟨c1,c2,c3⟩:=HK.out w8 HG8.out
   have hlw8:w.heap.size<w8.heap.size:=Nat.lt_of_lt_of_le hlw6 HG8.out.size
   have hgw:w.heap.size≤g:=by
    have k1:w1.heap.size≤w3.heap.size:=HB3.out.size
    have k3:=HG6.out
    omega
   have HLow:Hid (∀ W:World,w6.grownBy W (some g)→Below w.heap.size w W):=Lib.hid fun W hW=>(bt HB1.out (bt HB3.out HB6.out)).grown hW (bt HB1.out (bt HB3.out HB6.out)).size (fun j e=>by have:=Option.some.inj e;omega)
   have hdp:dv.pa=d.pa:=by rw [←HD1.out];rfl
   have HP1:=HFd.out dv.pa w8 (HLow.out w8 HG8.out)
   rw [hdp] at HP1
   have HX0:Hid ((⟨x,dv0,false⟩:Em).e=evS ⟨c.i,d,on,pntS (dsD c.tds) d⟩):=Lib.hid (by unfold Em.e evS;rw [HXd.out];rfl)
   cases hp:findD (dsD c.tds) d.pa with
   | none =>
     rw [hp] at HP1
     have hpn:pntS (dsD c.tds) d=⟨#[]⟩:=by unfold pntS;rw [hp]
     rw [hpn] at HX0
     have HPn:=Lib.hid hpn
     unfold FindP trV dvV at HP1
     dsimp only at HP1
     rw [←hdp] at HP1
     have HP:=Lib.hid HP1
     clear HP1 hp hpn hdp
     go_wp2_with (go_at_call 29;refine HP.out.mono ?_;rintro e w9 ⟨rfl,hb9⟩;have HB9:=Lib.hid (bAl hb9:Below w8.heap.size w8 (w9.alloc (.cells #[.int .i64 0,.int .i64 0,.string ⟨#[]⟩,.string ⟨#[]⟩,.string ⟨#[]⟩,.string ⟨#[]⟩,.string ⟨#[]⟩,.int .i64 0,.int .i64 0,.slice none 0 0] devT)));clear hb9)
     go_ret2
     refine ⟨g,dv,⟨x,dv0,false⟩,rfl,HD1.out,?_,?_,hgw,HLo.out,HLow.out _ (HG8.out.trans (grown_below HB9.out _))⟩
     · rw [HOn.out,HPn.out];exact HX0.out
     · rw [HOn.out,HPn.out];exact H8.out.keep HB9.out
   | some p =>
     rw [hp] at HP1
     have hpn:pntS (dsD c.tds) d=(nodeB p).getD ⟨#[]⟩:=by unfold pntS;rw [hp]
     rw [hpn] at HX0
     have HPn:=Lib.hid hpn
     unfold FindP trV dvV at HP1
     dsimp only at HP1
     rw [←hdp] at HP1
     have HP:=Lib.hid HP1
     have HNd:=Lib.hid (fun (pv:Dv) (hpv:pv.d=p) (W:World) (hW:Below w.heap.size w W)=>Node_any pv W (HE.out.go hW) (by have:=(HZ.out.dv p (findD_some hp).1).1.og;rw [←hpv] at this;exact this))
     unfold dvA at HNd
     clear HP1 hp hpn hdp
     go_wp2_with (first
      | (go_at_call 29;refine HP.out.mono ?_;rintro e w9 ⟨pv,rfl,hp1,hp2,hp3,hb9⟩;have HP1:=Lib.hid hp1;have HB9:=Lib.hid (bAl hb9:Below w8.heap.size w8 (w9.alloc (.cells #[.int .i64 pv.ix,.int .i64 pv.pa,.string pv.nam,.string pv.og,.string pv.sb,.string pv.dr,.string pv.al,.int .i64 pv.kd,.int .i64 pv.nb,.slice pv.ats.A pv.ats.l.length pv.ats.c] devT)));have hld9:=ldDv_at (w:=w9.alloc (.cells (dvA pv) devT)) (g:=w9.heap.size) (d:=pv) (heap_alloc_new _ _);unfold dvA at hld9;clear hb9 hp1 hp2 hp3)
      | (go_at_call 32;refine (HNd.out pv HP1.out _ (HLow.out _ (HG8.out.trans (grown_below HB9.out _)))).mono ?_;rintro e w10 ⟨rfl,hb10⟩;have h10:=(H8.out.keep HB9.out).keep hb10;have q42:=cellOf (j:=42) h10.box rfl;have f42:=frz h10.box 42;obtain ⟨h11,g11⟩:=h10.pntS ((nodeB pv.d).getD ⟨#[]⟩);have H11:=Lib.hid h11;have HG11:=Lib.hid (HG8.out.trans ((grown_below (bt HB9.out hb10) _).trans g11));clear hb10 h10 h11 g11))
     go_ret2
     refine ⟨g,dv,⟨x,dv0,false⟩,rfl,HD1.out,?_,?_,hgw,HLo.out,HLow.out _ HG11.out⟩
     · rw [HOn.out,HPn.out];exact HX0.out
     · rw [HOn.out,HPn.out,←HP1.out];exact H11.out
end
section
open Go.RowKit
def encI (z:Int):List Value:=[.int .i64 z]
theorem app_int {B:Nat} {A:Option Addr} {c:Nat} {l:List Int} (t:Int) (w:World) (h:w.ownsRow B 3 1 (.slice A l.length c) l.length (cellsOf encI l)) (hl:l.length≤1000000) (hB:B≤w.heap.size) :
 ∃ A' c' w',(apG #[22,22] 22 #[.slice A l.length c,.slice (some ⟨w.heap.size,0,none⟩) 1 1]).run Tryz.prog (w.alloc (.cells #[.int .i64 t] 3))=.ok (.slice A' (l.length+1) c') w'∧w'.ownsRow B 3 1 (.slice A' (l.length+1) c') (l.length+1) (cellsOf encI (l++[t]))∧w.grownBy w' (Value.slice A l.length c).ownBlock∧∀ p,A'=some p→w.heap.size≤p.block∨∃ q,A=some q∧q.block=p.block:=by
 obtain ⟨i0,hi0,hz0,hz1,hz2⟩:=info_parts intInfo
 obtain ⟨v',w',h1,h2,h3,_,h5⟩:=run_append_own_at (P:=Tryz.prog) (w.alloc (.cells #[.int .i64 t] 3)) B 22 22 3 i0 _ 1 8 Tryz.underlying22 hi0 hz0 hz1 hz2 rfl (by decide) (.slice A l.length c) l.length _ (own_below2 h (below_alloc _ _)) ⟨w.heap.size,0,none⟩ 1 1 (encI t) rfl (fun j u hu=>by
  rw [add_at,Nat.zero_add]
  exact cellOf (heap_alloc_new w _) (by rw [←hu,←Array.getElem?_toList];rfl)) (by simp [encI,Value.oneCell']) (by unfold maxLen;omega) (by omega) (Nat.le_trans hB (below_alloc w _).size)
 rw [ap_g] at h1
 obtain ⟨NA,nc,rfl⟩:=own_slice h2
 have hc:cellsOf encI (l++[t])=cellsOf encI l++encI t:=by rw [cellsOf_append];simp [cellsOf]
 refine ⟨NA,nc,w',h1,by rw [hc];exact h2,(grown_below (below_alloc w _) _).trans h3,fun p hp=>?_⟩
 have hpb:(Value.slice NA (l.length+1) nc).ownBlock=some p.block:=by rw [hp];rfl
 rcases h5 with k | k
 · rw [hpb] at k
   obtain ⟨q,e1,e2⟩:=slice_own k.symm
   exact Or.inr ⟨q,e1,e2⟩
 · rw [hpb] at k
   have:=Option.some.inj k
   have:=(below_alloc w (.cells #[.int .i64 t] 3)).size
   exact Or.inl (by omega)
theorem setN_good {l:List At} {k v:ByteArray} {n:Nat} (h:AscA l∧l.length≤n∧∀ x∈l,x.val.size≤1000000) (hv:v.size≤1000000):AscA (setN l k v)∧(setN l k v).length≤n+1∧∀ x∈setN l k v,x.val.size≤1000000:=by
 refine ⟨?_,Nat.le_trans (setN_len _ _ _) (Nat.succ_le_succ h.2.1),?_⟩
 · unfold setN
   split
   · exact h.1
   · exact ascA_set h.1 _
 · intro x hx
   unfold setN at hx
   split at hx
   · exact h.2.2 x hx
   · rcases mem_setP hx with h1 | ⟨rfl,_⟩
     · exact h.2.2 x h1
     · exact hv
theorem org_size {l:List Dd} (h:∀ d∈l,d.og.size≤1000) (hl:l.length≤100) (n:Int) (_hw:WfT l):(orgB l n).size≤1000000:=by
 unfold orgB
 rw [size_bs]
 have h1:=chR_org (r:=l.reverse) (fun d hd=>h d (List.mem_reverse.1 hd)) n
 have h2:(chR l.reverse n).length≤l.reverse.length:=chR_len _ _
 rw [List.length_reverse] at h2
 have:(orgS (chS l n)).length≤(chS l n).length*1001:=h1
 have h3:(chS l n).length≤l.length:=h2
 omega
theorem base_good {c:EmC} (hz:InZ c):AscA (baseS (dsD c.tds) c.ix)∧(baseS (dsD c.tds) c.ix).length≤64∧∀ x∈baseS (dsD c.tds) c.ix,x.val.size≤1000000:=by
 unfold baseS
 split
 · rename_i d hd
   have hdm:=(findD_some hd).1
   have h1:=hz.dv d hdm
   have hog:=h1.1.og
   have ho:=org_size (fun x hx=>(hz.dv x hx).1.og) (by rw [dsD_len];exact hz.tl) c.ix hz.wf
   have h4:AscA (setN (setN (setN (setN [] kDevpath (orgB (dsD c.tds) c.ix)) kSubsys d.sb) kDriver d.dr) kModal d.al)∧(setN (setN (setN (setN [] kDevpath (orgB (dsD c.tds) c.ix)) kSubsys d.sb) kDriver d.dr) kModal d.al).length≤4∧∀ x∈setN (setN (setN (setN [] kDevpath (orgB (dsD c.tds) c.ix)) kSubsys d.sb) kDriver d.dr) kModal d.al,x.val.size≤1000000 :=
    setN_good (setN_good (setN_good (setN_good ⟨List.Pairwise.nil,Nat.le_refl 0,fun _ h=>by cases h⟩ ho) (by omega)) (by omega)) (hz.al d hdm)
   have key:∀ (a:List At) (o:Option ByteArray),(∀ v,o=some v→v.size≤1000000)→(AscA a∧a.length≤4∧∀ x∈a,x.val.size≤1000000)→∀ r,r=(if d.kd=4 then setN (match o with | some v=>setN (setN a kDevname v) kNumber (bs (Lib.itoa d.nb)) | none=>a) kIface d.og else (match o with | some v=>setN (setN a kDevname v) kNumber (bs (Lib.itoa d.nb)) | none=>a))→AscA r∧r.length≤64∧∀ x∈r,x.val.size≤1000000:=by
    intro a o hv ha r hr
    cases o with
    | none =>
      dsimp only at hr
      rw [hr]
      split
      · have h5:=setN_good (k:=kIface) ha (show d.og.size≤1000000 by omega)
        exact ⟨h5.1,by omega,h5.2.2⟩
      · exact ⟨ha.1,by omega,ha.2.2⟩
    | some v =>
      dsimp only at hr
      rw [hr]
      have hb:=setN_good (k:=kNumber) (setN_good (k:=kDevname) ha (hv v rfl)) (show (bs (Lib.itoa d.nb)).size≤1000000 by rw [size_bs];exact Nat.le_trans (Lib.itoa_length_le d.nb h1.2.2.2.1 h1.2.2.2.2.1) (by decide))
      split
      · have h5:=setN_good (k:=kIface) hb (show d.og.size≤1000000 by omega)
        exact ⟨h5.1,by omega,h5.2.2⟩
      · exact ⟨hb.1,by omega,hb.2.2⟩
   exact key _ (nodeB d) (fun v hv=>by rw [node_size hv];omega) h4 _ rfl
 · exact ⟨List.Pairwise.nil,Nat.zero_le _,fun _ h=>by cases h⟩
theorem begin_good {c:EmC} (hz:InZ c):GdD (beginS (baseS (dsD c.tds) c.ix)) 0:=by
 have h:=base_good hz
 refine ⟨h.1,h.2.1,h.2.2,List.Pairwise.nil,Nat.zero_le _,List.Pairwise.nil,Nat.zero_le _,Nat.zero_le _,List.Pairwise.nil,Nat.zero_le _,Nat.zero_le _,Nat.zero_le _,Nat.zero_le _,⟨Int.le_refl _,Int.le_refl _⟩,⟨Int.le_refl _,by show (0:Int)≤1000*((0:Nat):Int);omega⟩,fun _ h=>by cases h⟩
theorem EmW.of {c:EmC} (hz:InZ c) {d:Dd} (hd:findD (dsD c.tds) c.ix=some d) {dv:Dv} (he:dv.d=d):EmW (c.w dv (orgB (dsD c.tds) c.ix) (pntS (dsD c.tds) d)):=by
 refine ⟨hz.ok,hz.dv,hz.wf,hz.ix1,hz.ix2,by show dv.d∈_;rw [he];exact (findD_some hd).1,org_size (fun x hx=>(hz.dv x hx).1.og) (by rw [dsD_len];exact hz.tl) c.ix hz.wf,Nat.le_trans (pnt_size fun x hx=>(hz.dv x hx).1.og) (by decide),hz.hl,hz.hc,hz.act,hz.pl,hz.pz⟩
structure RuE (w:World) (A:Option Addr) (rl:List Rl):Prop where
 row:RowN w A 3 rl.length (cellsOf encRl rl)
 inn:∀ y∈rl,RowN w y.tms.A 4 y.tms.l.length (cellsOf encTm y.tms.l)
 nil:∀ y∈rl,y.tms.A=none→y.tms.c=0
theorem RuE.keep {w w':World} {A:Option Addr} {rl:List Rl} (h:RuE w A rl) (hb:Below w.heap.size w w'):RuE w' A rl:=⟨h.row.keep hb,fun y hy=>(h.inn y hy).keep hb,h.nil⟩
theorem RuE.grown {w w':World} {A:Option Addr} {rl:List Rl} {g:Nat} (h:RuE w A rl) (hg:w.grownBy w' (some g)) (h1:∀ p,A=some p→p.block≠g) (h2:∀ y∈rl,∀ p,y.tms.A=some p→p.block≠g):RuE w' A rl :=
 ⟨h.row.grown hg (fun p e k=>h1 p e (Option.some.inj k)),fun y hy=>(h.inn y hy).grown hg (fun p e k=>h2 y hy p e (Option.some.inj k)),h.nil⟩
theorem RuE.n {w:World} {A:Option Addr} {rl:List Rl} (h:RuE w A rl):RuN w A rl:=⟨h.row.row,fun y hy=>(h.inn y hy).row⟩
structure RuZ (rl:List Rl):Prop where
 len:rl.length≤40
 tms:∀ y∈rl,y.tms.l.length≤1000∧∀ t∈y.tms.l,t.value.size≤1000000
theorem run_step {c:Cst} {ls:List (List Tm)} {f k:Nat} {x:Ev} {held:List Int} {l:List Tm} (h:ls[k]? = some l):runE c ls (f+1) k x held=if (readE c x l).2 then runE c ls f (nextS ls k l) (readE c x l).1 (held++[(k:Int)]) else runE c ls f (k+1) (readE c x l).1 held:=by
 rw [runE,h]
theorem run_end {c:Cst} {ls:List (List Tm)} {f k:Nat} {x:Ev} {held:List Int} (h:ls[k]? = none):runE c ls f k x held=(x,held):=by
 cases f with
 | zero=>rfl
 | succ f=>rw [runE,h]
def cstD (c:EmC) (d:Dd):Cst:=⟨c.i,d,orgB (dsD c.tds) c.ix,pntS (dsD c.tds) d⟩
def runD (c:EmC) (d:Dd) (rl:List Rl):Ev × List Int:=runE (cstD c d) (rlT rl) (rl.length+1) 0 (evS (cstD c d)) []
def RunQ (c:EmC) (rl:List Rl) (w:World) (e:Ending) (w':World):Prop:=match findD (dsD c.tds) c.ix with
 | none=>e=.returned (.tuple #[.pointer none,.slice none 0 0,.int .i64 150])∧Below w.heap.size w w'
 | some d=>∃ g dv x' HA hc,e=.returned (.tuple #[.pointer (some ⟨g,0,none⟩),.slice HA (runD c d rl).2.length hc,.int .i64 0])∧x'.e.dr=(runD c d rl).1.dr∧EvO w' g (c.w dv (orgB (dsD c.tds) c.ix) (pntS (dsD c.tds) d)) x'∧RowN w' HA 1 (runD c d rl).2.length (cellsOf encI (runD c d rl).2)∧GdD x'.dr.d 100000∧(∀ a∈x'.dr.as,∀ p,a=some p→w.heap.size≤p.block)∧Below w.heap.size w w'
end
section
open Go.RowKit
attribute [local go_sem ↓] ld_inp ap_g
set_option maxHeartbeats 4000000 in
theorem ERun_any (A:Option Addr) (ac:Nat) (rl:List Rl) (c:EmC) (w:World) (h:InM w c) (hz:InZ c) (hE:EnvE w) (hr:RuE w A rl) (hrz:RuZ rl) (hR:∀ y∈rl,∀ t∈y.tms.l,KeyS t) :
 Calls Tryz.prog 47 #[.slice A rl.length ac,.agg (inA c)] w (RunQ c rl w):=by
 obtain ⟨w1,hw1⟩:∃ w1,w.alloc (.cells (inA c) inpT)=w1:=⟨_,rfl⟩
 have hb1:Below w.heap.size w w1:=by rw [←hw1];exact below_alloc _ _
 have hr1:w1.heap[w.heap.size]? = some (.cells (inA c) inpT (0,0)):=by rw [←hw1];exact heap_alloc_new _ _
 have hld:=ldInp_at hr1
 have HBg:=Lib.hid (EBegin_any c w1 (h.keep hb1) hz ((hE.go hb1).toEnv.toEnv0))
 unfold BegP at HBg
 unfold RunQ
 cases hf:findD (dsD c.tds) c.ix with
 | none =>
   rw [hf] at HBg
   dsimp only at HBg
   have HB1:=Lib.hid hb1
   have HW1:=Lib.hid hw1
   clear h hz hE hr hrz hR hb1 hr1 hw1 hf
   unfold inA at *
   go_enter Tryz.func47,Tryz.ntmps47
   go_upto_region 1 with fail
   rw [HW1.out]
   go_wp2_with (go_at_call 65;refine HBg.out.mono ?_;rintro e w2 ⟨rfl,hb2⟩)
   go_ret3
   exact ⟨rfl,bt HB1.out hb2⟩
 | some d =>
   rw [hf] at HBg
   dsimp only at HBg
   have HW0:=Lib.hid (fun (dv:Dv) (he:dv.d=d)=>EmW.of hz hf he)
   have HGd0:=Lib.hid (begin_good hz)
   have HB1:=Lib.hid hb1
   have HW1:=Lib.hid hw1
   have HR1:=Lib.hid (hr.keep hb1)
   have HE1:=Lib.hid (hE.go hb1)
   have HRz:=Lib.hid hrz
   have HRk:=Lib.hid hR
   have hng:nG≤w1.heap.size:=Nat.le_trans hE.toEnv.toEnv0.size hb1.size
   have hlen:=hrz.len
   clear h hz hE hr hrz hR hb1 hr1 hw1 hf
   dsimp only
   generalize hrd:runD c d rl=RD
   have HRd:=Lib.hid hrd
   clear hrd
   unfold inA at *
   obtain ⟨N,hN⟩:∃ N,rl.length=N:=⟨_,rfl⟩
   have HN:=Lib.hid hN
   rw [hN] at hlen ⊢
   clear hN
   go_enter Tryz.func47,Tryz.ntmps47
   go_upto_region 1 with fail
   rw [HW1.out]
   go_wp2_with (go_at_call 65;refine HBg.out.mono ?_;rintro e w2 ⟨g,dv,x0,rfl,hdv,hx0,hO,hgw,hlo,hb2⟩;have HDv:=Lib.hid hdv;have HX0:=Lib.hid hx0;have HO2:=Lib.hid hO;have HB2:=Lib.hid hb2;have HLo:=Lib.hid hlo;clear hdv hx0 hO hb2 hlo hld)
   obtain ⟨c',hc'⟩:∃ c',c'=c.w dv (orgB (dsD c.tds) c.ix) (pntS (dsD c.tds) d):=⟨_,rfl⟩
   have HC:=Lib.hid hc'
   rw [←hc'] at HO2
   have hcc:c'.c=cstD c d:=by rw [hc'];unfold EmC.c EmC.w cstD;dsimp only;rw [HDv.out];rfl
   have HCc:=Lib.hid hcc
   have HEw:Hid (EmW c'):=Lib.hid (by rw [hc'];exact HW0.out dv HDv.out)
   have HR2:=Lib.hid (HR1.out.keep HB2.out)
   have hg2:g<w2.heap.size:=blk_lt' HO2.out.box
   have hAg:∀ p,A=some p→p.block≠g:=fun p e=>by have:=(HR1.out.row.pl p e).2;omega
   have hTg:∀ y∈rl,∀ p,y.tms.A=some p→p.block≠g:=fun y hy p e=>by have:=((HR1.out.inn y hy).pl p e).2;omega
   have HRg:=Lib.hid (fun (W:World) (hW:w2.grownBy W (some g))=>HR2.out.grown hW hAg hTg)
   have HTg:=Lib.hid hTg
   have HEg:=Lib.hid (fun (W:World) (hW:w2.grownBy W (some g))=>(HE1.out.go HB2.out).grown hW (Nat.le_trans hng hgw))
   have hgn:nG≤g:=Nat.le_trans hng hgw
   have hx0d:GdD x0.e.dr 0:=by rw [HX0.out];exact HGd0.out
   have HGd:=Lib.hid hx0d
   have HXe:Hid (x0.e=evS c'.c):=Lib.hid (by rw [HX0.out,hcc];rfl)
   have HRun:Hid (RD=runE c'.c (rlT rl) (N+1) 0 x0.e []):=Lib.hid (by rw [HXe.out,hcc,←HRd.out,←HN.out];rfl)
   clear hc' hcc hAg hTg hx0d
   go_loopg [9,10] (N+1) (fun gk s9 s10 wr=>∃ (k:Nat) (HA:Option Addr) (hc:Nat) (hs:List Int) (xk:Em),s10=.int .i64 k∧gk≤N+1∧N+1≤gk+k∧s9=.slice HA hs.length hc∧hs.length+gk≤N+1∧Hid (wr.ownsRow w2.heap.size 3 1 (.slice HA hs.length hc) hs.length (cellsOf encI hs))∧Hid (EvO wr g c' xk)∧Hid (w2.grownBy wr (some g))∧Hid (RD=runE c'.c (rlT rl) gk k xk.e hs)∧Hid (GdD xk.e.dr (2000*(N+1 - gk)))∧Hid (FrC c' w2 x0 xk)∧Hid (∀ p,HA=some p→OffG p.block xk.as))
   case atStart=>exact ⟨0,none,0,[],x0,rfl,Nat.le_refl _,by omega,rfl,by simp,Lib.hid (World.ownsRow_nil _ _ _ _),HO2,Lib.hid (World.grownBy.refl _ _),HRun,Lib.hid (HGd.out.mono (Nat.zero_le _)),Lib.hid (Fr.same rfl rfl).c,Lib.hid (fun p e=>by cases e)⟩
   case round =>
    obtain ⟨k,HA,hc,hs,xk,rfl,hgk,hgk2,rfl,hsl,HO,HX,HG,HM,HGk,HFk,HAp⟩:=hrel
    by_cases hlt:k<N
    · have hlt':k<rl.length:=by rw [HN.out];exact hlt
      have hru:=HRg.out wr HG.out
      obtain ⟨ba,off,rfl,c0,c1,c2⟩:=rl_cells hru.row.row (Below.refl _ _) hlt'
      have hbl:ba<wr.heap.size:=(hru.row.pl _ rfl).2
      have hkI:(k:Int)<(N:Int):=by omega
      obtain ⟨f,rfl⟩:∃ f,gk=f+1:=⟨gk - 1,by omega⟩
      have hym:=List.getElem_mem hlt'
      have hyz:=HRz.out.tms rl[k] hym
      have HRc:=Lib.hid (ERead_any g c' xk (2000*(N+1 - (f+1))) rl[k] wr HX.out HEw.out HGk.out (by have:=hyz.1;omega) (HEg.out wr HG.out) hgn (hru.inn _ hym) (hru.nil _ hym) (HTg.out _ hym) hyz.1 hyz.2 (fun t ht=>HRk.out _ hym t ht))
      have hstep:=run_step (c:=c'.c) (f:=f) (x:=xk.e) (held:=hs) (rlT_get rl hlt')
      rw [←HM.out] at hstep
      have hgd:=read_good (c:=c'.c) HEw.out.ok hyz.2 HGk.out
      have hgd2:GdD (readE c'.c xk.e rl[k].tms.l).1.dr (2000*(N+1 - f)):=hgd.mono (by have:=hyz.1;omega)
      have HNx:=Lib.hid (fun (W:World) (hW:w2.grownBy W (some g))=>EvNext_any (some ⟨ba,off,none⟩) ac rl k W (HRg.out W hW).n hlt' (by rw [HN.out];omega) (fun y hy=>by have:=(HRz.out.tms y hy).1;omega))
      have hng2:=next_gt (rlT rl) k rl[k].tms.l
      rw [HN.out] at HNx
      generalize nextS (rlT rl) k rl[k].tms.l=nx at *
      generalize readE c'.c xk.e rl[k].tms.l=RE at *
      obtain ⟨ev,bb⟩:=RE
      dsimp only at hstep hgd2 HRc
      have HSt:=Lib.hid hstep
      have HGd2:=Lib.hid hgd2
      have HAI:=Lib.hid (fun (W:World) (hW:wr.grownBy W (some g))=>app_int (B:=w2.heap.size) (A:=HA) (c:=hc) (l:=hs) (k:Int) W (own_off HO.out hW (fun j ej hv=>by
       have k1:=(HO.out.lt _ hv).1
       have k2:=Option.some.inj ej
       omega)) (by omega) (Nat.le_trans HG.out.size hW.size))
      generalize rl[k].tms.l.length=n9 at *
      generalize rl[k].file=ff at *
      generalize rl[k].line=ll at *
      generalize rl[k].tms.A=ttA at *
      generalize rl[k].tms.c=ttc at *
      clear hstep hgd hgd2 hym hyz hru HTg HRz HRk HEg HEw
      cases bb with
      | false =>
        go_wp2_with (go_at_call 66;refine HRc.out.mono ?_;rintro e w4 ⟨x4,rfl,hx4,h4,g4,f4⟩;have HX4:=Lib.hid hx4;have HO4:=Lib.hid h4;have HG4:=Lib.hid g4;have HF4:=Lib.hid f4;clear hx4 h4 g4 f4)
        go_roundg f
        case measure=>omega
        case rel =>
         have e9:=HSt.out
         rw [if_neg (by simp),←HX4.out] at e9
         refine ⟨k+1,HA,hc,hs,x4,by go_num,by omega,by omega,rfl,by omega,?_,HO4,Lib.hid (HG.out.trans HG4.out),Lib.hid e9,Lib.hid (by rw [HX4.out];exact HGd2.out),Lib.hid (HFk.out.trans HF4.out HG.out.size),Lib.hid (fun p e b hb q eq=>?_)⟩
         · exact Lib.hid (own_off HO.out HG4.out (fun j ej hv=>by
            have k1:=(HO.out.lt _ hv).1
            have k2:=Option.some.inj ej
            omega))
         · have hp:=own_rng HO.out p e
           rcases HF4.out.a b hb q eq with k1 | k1 | k1
           · omega
           · exact HAp.out p e b k1 q eq
           · have:=HO2.out.lowc b k1 q eq;omega
      | true =>
        go_upto_region 9 with (go_at_call 66;refine HRc.out.mono ?_;rintro e w4 ⟨x4,rfl,hx4,h4,g4,f4⟩;have HX4:=Lib.hid hx4;have HO4:=Lib.hid h4;have HG4:=Lib.hid g4;have HF4:=Lib.hid f4;obtain ⟨A6,c6,w6,hap,hown,hgr,hat⟩:=HAI.out w4 g4;have HO6:=Lib.hid hown;have HGr:=Lib.hid hgr;have HAt:=Lib.hid hat;clear hown hgr hat;clear hx4 h4 g4 f4)
        have hown9:∀ b,(Value.slice HA hs.length hc).ownBlock=some b→w2.heap.size≤b∧b<wr.heap.size∧∃ p,HA=some p∧p.block=b:=fun b hb=>by
         obtain ⟨p,e1,e2⟩:=slice_own hb
         have:=own_rng HO.out p e1
         rw [←e2]
         exact ⟨this.1,this.2,p,e1,rfl⟩
        have hX6:EvO w6 g c' x4:=HO4.out.away HGr.out (fun b hb=>by
         obtain ⟨k1,k2,p,k3,k4⟩:=hown9 b hb
         refine ⟨by omega,fun a ha q e k5=>?_,fun a ha q e k5=>?_⟩
         · have:=HO2.out.lowc a ha q e;omega
         · rcases HF4.out.a a ha q e with k6 | k6 | k6
           · omega
           · exact HAp.out p k3 a k6 q e (by omega)
           · have:=HO2.out.lowc a k6 q e;omega)
        have hG6:w2.grownBy w6 (some g):=grown_far (HG.out.trans HG4.out) HGr.out (fun j ej=>Or.inl (hown9 j ej).1)
        have HX6:=Lib.hid hX6
        have HG6:=Lib.hid hG6
        have HN6:=Lib.hid (HNx.out w6 hG6)
        have HLw:=Lib.hid (fun (p:Addr) (e:A6=some p) (b:Option Addr) (hb:b∈x4.as) (q:Addr) (eq:b=some q)=>show q.block≠p.block by
         rcases HAt.out p e with k1 | ⟨q0,k1,k2⟩
         · have k3:=HO4.out.lowx b hb q eq
           omega
         · obtain ⟨m1,m2⟩:=own_rng HO.out q0 k1
           rcases HF4.out.a b hb q eq with k6 | k6 | k6
           · omega
           · have:=HAp.out q0 k1 b k6 q eq;omega
           · have:=HO2.out.lowc b k6 q eq;omega)
        clear hown9 hX6 hG6 HNx HAI
        go_wp2_with (go_at_call 67;refine HN6.out.mono ?_;rintro e w7 ⟨rfl,hb7⟩;have HB7:=Lib.hid hb7;clear hb7)
        go_roundg f
        case measure=>omega
        case rel =>
         have e9:=HSt.out
         rw [if_pos trivial,←HX4.out] at e9
         have hl9:(hs++[(k:Int)]).length=hs.length+1:=by simp
         refine ⟨nx,A6,c6,hs++[(k:Int)],x4,by first | rfl | go_num,by omega,by omega,by rw [hl9],by rw [hl9];omega,?_,Lib.hid (HX6.out.keep HB7.out),Lib.hid (HG6.out.trans (grown_below HB7.out _)),Lib.hid e9,Lib.hid (by rw [HX4.out];exact HGd2.out),Lib.hid (HFk.out.trans HF4.out HG.out.size),Lib.hid HLw.out⟩
         rw [hl9]
         exact Lib.hid (own_below2 HO6.out HB7.out)
    · have hget:(rlT rl)[k]? = none:=by rw [List.getElem?_eq_none_iff,rlT_len,HN.out];omega
      have hre:=HM.out
      rw [run_end hget] at hre
      have HRe:=Lib.hid hre
      clear hget hre
      go_wp2
      go_ret3
      have e9:=HRe.out
      rw [e9]
      refine ⟨g,dv,xk,HA,hc,rfl,rfl,?_,(RowN.of_own HO.out).1,HGk.out.mono (by omega),fun a ha p e=>?_,?_⟩
      · rw [←HC.out];exact HX.out
      · have k0:=HB1.out.size
        have k2:=HB2.out.size
        rcases HFk.out.d a ha p e with k1 | k1
        · omega
        · have:=HLo.out a k1 p e;omega
      · exact bt HB1.out (grown_back HB2.out HG.out hgw)
end
section
open Go.RowKit
theorem dr0_build (W:World):(buG drT #[]).run Tryz.prog W=.ok (.agg (drA dmZ)) W:=by
 unfold buG
 exact run_build W _ _ _ (by kernel_rfl)
theorem bu_drt (parts:Array (Nat × Value)):Instr.build drT parts=buG drT parts:=by unfold buG;rfl
theorem stD_at {w:World} {q:Nat} {cs:Array Value} (h:w.heap[q]? = some (.cells cs drT (0,0))) (hs:cs.size=14) (d:Dm):(stG drT (.pointer (some ⟨q,0,none⟩)) (.agg (drA d))).run Tryz.prog w=.ok () (w.setRow q (drA d)):=by
 have h1:=stG_at (P:=Tryz.prog) (w:=w) (T:=drT) (g:=q) (o:=0) (cs:=cs) (vs:=drA d) h (by rw [hs];show 0+14≤14;omega) (by show 0<14;omega) (by exact drSize) (drA_one d)
 rw [setAll_whole cs (drA d) (by rw [hs];rfl)] at h1
 exact h1
def DraftQ (c:EmC) (rl:List Rl) (w:World) (e:Ending) (w':World):Prop:=match findD (dsD c.tds) c.ix with
 | none=>e=.returned (.tuple #[.agg (drA dmZ),.int .i64 150])∧Below w.heap.size w w'
 | some d=>∃ x:Dm,e=.returned (.tuple #[.agg (drA x),.int .i64 0])∧x.d=(runD c d rl).1.dr∧DmN w' x∧GdD x.d 100000∧(∀ a∈x.as,∀ p,a=some p→w.heap.size≤p.block)∧Below w.heap.size w w'
attribute [local go_sem ↓] ld_inp ld_dr st_dr bu_drt
set_option maxHeartbeats 2000000 in
theorem EDraft_any (A:Option Addr) (ac:Nat) (rl:List Rl) (c:EmC) (w:World) (h:InM w c) (hz:InZ c) (hE:EnvE w) (hr:RuE w A rl) (hrz:RuZ rl) (hR:∀ y∈rl,∀ t∈y.tms.l,KeyS t) :
 Calls Tryz.prog 24 #[.slice A rl.length ac,.agg (inA c)] w (DraftQ c rl w):=by
 obtain ⟨w1,hw1⟩:∃ w1,(w.alloc (.cells (inA c) inpT)).alloc (.cells (drA dmZ) drT)=w1:=⟨_,rfl⟩
 have hb1:Below w.heap.size w w1:=by rw [←hw1];exact bAl (below_alloc _ _)
 have hr1:w1.heap[w.heap.size]? = some (.cells (inA c) inpT (0,0)):=by rw [←hw1];exact ((below_alloc _ _).block _ (by simp)).trans (heap_alloc_new _ _)
 have hq1:w1.heap[w.heap.size+1]? = some (.cells (drA dmZ) drT (0,0)):=by
  rw [←hw1]
  have:=heap_alloc_new (w.alloc (.cells (inA c) inpT)) (.cells (drA dmZ) drT)
  simpa using this
 have hs1:w1.heap.size=w.heap.size+2:=by rw [←hw1];simp
 have hld:=ldInp_at hr1
 have HRn:=Lib.hid (ERun_any A ac rl c w1 (h.keep hb1) hz (hE.go hb1) (hr.keep hb1) hrz hR)
 unfold RunQ at HRn
 unfold DraftQ
 have HB1:=Lib.hid hb1
 have HW1:=Lib.hid hw1
 have HQ1:=Lib.hid hq1
 have HS1:=Lib.hid hs1
 have hdz:drA dmZ=#[.slice none 0 0,.slice none 0 0,.slice none 0 0,.slice none 0 0,.slice none 0 0,.string ⟨#[]⟩,.int .i64 0,.string ⟨#[]⟩,.string ⟨#[]⟩,.int .i64 0,.string ⟨#[]⟩,.int .i64 0,.int .i64 0,.slice none 0 0]:=rfl
 clear h hz hE hr hrz hR hb1 hr1 hq1 hs1 hw1
 unfold inA at *
 rw [hdz] at HW1
 clear hdz
 cases hf:findD (dsD c.tds) c.ix with
 | none =>
   rw [hf] at HRn
   dsimp only at HRn ⊢
   clear hf
   have hbd:=dr0_build
   go_enter Tryz.func24,Tryz.ntmps24
   go_upto_region 1 with fail
   rw [HW1.out]
   go_wp2_with (go_at_call 47;refine HRn.out.mono ?_;rintro e w2 ⟨rfl,hb2⟩;have HB2:=Lib.hid hb2;(have hx2:=(hb2.block _ (blk_lt' HQ1.out)).trans HQ1.out);have HX2:=Lib.hid hx2;have hst:=stD_at hx2 rfl dmZ;clear hb2 hx2 hld)
   refine post_cr2 rfl (by rfl) (by rfl) (setRow_heap _ _ _ _ _ _ HX2.out) Tryz.underlying52 rfl (by exact drSize) (by rfl) ?_
   exact ⟨rfl,bRow (bt HB1.out HB2.out) (by omega)⟩
 | some d =>
   rw [hf] at HRn
   dsimp only at HRn ⊢
   clear hf
   go_enter Tryz.func24,Tryz.ntmps24
   go_upto_region 1 with fail
   rw [HW1.out]
   go_wp2_with (go_at_call 47;refine HRn.out.mono ?_;rintro e w2 ⟨g,dv,x',HA,hc,rfl,hx,hO,hH,hgd,hlo,hb2⟩;have HB2:=Lib.hid hb2;(have hx2:=(hb2.block _ (blk_lt' HQ1.out)).trans HQ1.out);have HX2:=Lib.hid hx2;have hst:=stD_at hx2 rfl x'.dr;have hld2:=ldDr_at hO;have HX:=Lib.hid hx;have HN2:=Lib.hid hO.dr;have HG:=Lib.hid hgd;have HLo:=Lib.hid hlo;clear hb2 hx2 hld hx hO hH hgd hlo)
   refine post_cr2 rfl (by rfl) (by rfl) (setRow_heap _ _ _ _ _ _ HX2.out) Tryz.underlying52 rfl (by exact drSize) (by rfl) ?_
   refine ⟨x'.dr,rfl,HX.out,HN2.out.grown (grown_setRow _ _ _) (fun a ha p e=>?_),HG.out,fun a ha p e=>Nat.le_trans HB1.out.size (HLo.out a ha p e),bRow (bt HB1.out HB2.out) (by omega)⟩
   have k1:=HLo.out a ha p e
   have k2:=HS1.out
   omega
def HeldQ (c:EmC) (rl:List Rl) (w:World) (e:Ending) (w':World):Prop:=match findD (dsD c.tds) c.ix with
 | none=>e=.returned (.tuple #[.slice none 0 0,.int .i64 150])∧Below w.heap.size w w'
 | some d=>∃ HA hc,e=.returned (.tuple #[.slice HA (runD c d rl).2.length hc,.int .i64 0])∧RowN w' HA 1 (runD c d rl).2.length (cellsOf encI (runD c d rl).2)∧Below w.heap.size w w'
set_option maxHeartbeats 2000000 in
theorem EHeld_any (A:Option Addr) (ac:Nat) (rl:List Rl) (c:EmC) (w:World) (h:InM w c) (hz:InZ c) (hE:EnvE w) (hr:RuE w A rl) (hrz:RuZ rl) (hR:∀ y∈rl,∀ t∈y.tms.l,KeyS t) :
 Calls Tryz.prog 26 #[.slice A rl.length ac,.agg (inA c)] w (HeldQ c rl w):=by
 obtain ⟨w1,hw1⟩:∃ w1,w.alloc (.cells (inA c) inpT)=w1:=⟨_,rfl⟩
 have hb1:Below w.heap.size w w1:=by rw [←hw1];exact below_alloc _ _
 have hr1:w1.heap[w.heap.size]? = some (.cells (inA c) inpT (0,0)):=by rw [←hw1];exact heap_alloc_new _ _
 have hld:=ldInp_at hr1
 have HRn:=Lib.hid (ERun_any A ac rl c w1 (h.keep hb1) hz (hE.go hb1) (hr.keep hb1) hrz hR)
 unfold RunQ at HRn
 unfold HeldQ
 have HB1:=Lib.hid hb1
 have HW1:=Lib.hid hw1
 clear h hz hE hr hrz hR hb1 hr1 hw1
 unfold inA at *
 cases hf:findD (dsD c.tds) c.ix with
 | none =>
   rw [hf] at HRn
   dsimp only at HRn ⊢
   clear hf
   go_enter Tryz.func26,Tryz.ntmps26
   go_upto_region 1 with fail
   rw [HW1.out]
   go_wp2_with (go_at_call 47;refine HRn.out.mono ?_;rintro e w2 ⟨rfl,hb2⟩)
   go_ret2
   exact ⟨rfl,bt HB1.out hb2⟩
 | some d =>
   rw [hf] at HRn
   dsimp only at HRn ⊢
   clear hf
   go_enter Tryz.func26,Tryz.ntmps26
   go_upto_region 1 with fail
   rw [HW1.out]
   go_wp2_with (go_at_call 47;refine HRn.out.mono ?_;rintro e w2 ⟨g,dv,x',HA,hc,rfl,hx,hO,hH,hgd,hlo,hb2⟩)
   go_ret2
   exact ⟨HA,hc,rfl,hH,bt HB1.out hb2⟩
def RulesQ (c:EmC) (rl:List Rl) (w:World) (e:Ending) (w':World):Prop:=match findD (dsD c.tds) c.ix with
 | none=>e=.returned (.tuple #[.agg (rcA rmZ),.int .i64 0,.int .i64 150])∧Below w.heap.size w w'
 | some d=>∃ r:Rm,e=.returned (.tuple #[.agg (rcA r),.int .i64 (runD c d rl).1.dr.ticks,.int .i64 0])∧r.d=finS (runD c d rl).1.dr d (orgB (dsD c.tds) c.ix)∧RmN w' r∧(∀ a∈r.as,∀ p,a=some p→w.heap.size≤p.block)∧Below w.heap.size w w'
end
section
open Go.RowKit
theorem ld_rec (v:Value):Instr.loadAt recT v=ldG recT v:=by unfold ldG;rfl
theorem st_rec (v u:Value):Instr.storeAt recT v u=stG recT v u:=by unfold stG;rfl
theorem bu_rec (parts:Array (Nat × Value)):Instr.build recT parts=buG recT parts:=by unfold buG;rfl
theorem rec0_build (W:World):(buG recT #[]).run Tryz.prog W=.ok (.agg (rcA rmZ)) W:=by
 unfold buG
 exact run_build W _ _ _ (by kernel_rfl)
theorem ldRec_at {w:World} {g:Nat} {r:Rm} (h:w.heap[g]? = some (.cells (rcA r) recT (0,0))):(ldG recT (.pointer (some ⟨g,0,none⟩))).run Tryz.prog w=.ok (.agg (rcA r)) w:=by
 have h1:=ldG_at (P:=Tryz.prog) (w:=w) (T:=recT) (n:=12) (g:=g) (o:=0) (cs:=rcA r) (by exact Tryz.isAgg34) (by exact Tryz.sizeOf34) h (by show 0+12≤12;omega)
 rw [show (rcA r).extract 0 (0+12)=rcA r from by kernel_rfl] at h1
 exact h1
theorem stRec_at {w:World} {q:Nat} {cs:Array Value} (h:w.heap[q]? = some (.cells cs recT (0,0))) (hs:cs.size=12) (r:Rm):(stG recT (.pointer (some ⟨q,0,none⟩)) (.agg (rcA r))).run Tryz.prog w=.ok () (w.setRow q (rcA r)):=by
 have h1:=stG_at (P:=Tryz.prog) (w:=w) (T:=recT) (g:=q) (o:=0) (cs:=cs) (vs:=rcA r) h (by rw [hs];show 0+12≤12;omega) (by show 0<12;omega) (by exact rcSize) (rcA_one r)
 rw [setAll_whole cs (rcA r) (by rw [hs];rfl)] at h1
 exact h1
theorem post_cr3 {P:Program} {fn:Func} {R:Ending→World→Prop} {a:Act} {W:World} {g:Nat} {p q s:Tmp} {ty t:TypeId} {cs:Array Value} {u v:Value} {fr:Nat × Nat} {d:TypeDesc} (h:fn.results=#[.cell p ty,.tmp q,.tmp s]) (hp:a.tmps.getD p undef=.pointer (some ⟨g,0,none⟩)) (hq:a.tmps.getD q undef=u) (hs:a.tmps.getD s undef=v)
 (hg:W.heap[g]? = some (.cells cs t fr)) (hu:P.underlying ty=some d) (hd:(match d with | .struct _ | .array _ _=>true | _=>false)=true) (hi:(P.info? ty).map (·.size)=some cs.size) (hdef:a.defers=[])
 (hR:R (.returned (.tuple #[.agg cs,u,v])) W):bodyPost P fn R .ret a W:=by
 have hp':a.tmps[p]?.getD undef=.pointer (some ⟨g,0,none⟩):=by simpa using hp
 have hq':a.tmps[q]?.getD undef=u:=by simpa using hq
 have hs':a.tmps[s]?.getD undef=v:=by simpa using hs
 refine bodyPost_ret (v:=.tuple #[.agg cs,u,v]) ?_ hdef hR
 simp [results,h,hp',hq',hs',asAddr,run_loadVar_row W g t ty cs fr d hg hu hd hi]
theorem stD_ld {w:World} {q:Nat} {d:Dm} (h:w.heap[q]? = some (.cells (drA d) drT (0,0))):(ldG drT (.pointer (some ⟨q,0,none⟩))).run Tryz.prog w=.ok (.agg (drA d)) w:=by
 have h1:=ldG_at (P:=Tryz.prog) (w:=w) (T:=drT) (n:=14) (g:=q) (o:=0) (cs:=drA d) (by exact Tryz.isAgg52) (by exact Tryz.sizeOf52) h (by show 0+14≤14;omega)
 rw [show (drA d).extract 0 (0+14)=drA d from by kernel_rfl] at h1
 exact h1
theorem RmN.grown {w w':World} {r:Rm} {g:Nat} (h:RmN w r) (hg:w.grownBy w' (some g)) (ho:∀ a∈r.as,∀ p,a=some p→p.block≠g):RmN w' r :=
 ⟨h.pr.grown hg (fun p e k=>ho _ (by simp [Rm.as]) p e (Option.some.inj k)),h.tg.grown hg (fun p e k=>ho _ (by simp [Rm.as]) p e (Option.some.inj k)),h.lk.grown hg (fun p e k=>ho _ (by simp [Rm.as]) p e (Option.some.inj k)),h.rn.grown hg (fun p e k=>ho _ (by simp [Rm.as]) p e (Option.some.inj k)),h.ld.grown hg (fun p e k=>ho _ (by simp [Rm.as]) p e (Option.some.inj k))⟩
attribute [local go_sem ↓] ld_inp ld_rec st_rec bu_rec ld_dr st_dr
set_option maxHeartbeats 2000000 in
theorem ERules_any (A:Option Addr) (ac:Nat) (rl:List Rl) (c:EmC) (w:World) (h:InM w c) (hz:InZ c) (hE:EnvE w) (hr:RuE w A rl) (hrz:RuZ rl) (hR:∀ y∈rl,∀ t∈y.tms.l,KeyS t) :
 Calls Tryz.prog 7 #[.slice A rl.length ac,.agg (inA c)] w (RulesQ c rl w):=by
 obtain ⟨w1,hw1⟩:∃ w1,(w.alloc (.cells (inA c) inpT)).alloc (.cells (rcA rmZ) recT)=w1:=⟨_,rfl⟩
 have hb1:Below w.heap.size w w1:=by rw [←hw1];exact bAl (below_alloc _ _)
 have hr1:w1.heap[w.heap.size]? = some (.cells (inA c) inpT (0,0)):=by rw [←hw1];exact ((below_alloc _ _).block _ (by simp)).trans (heap_alloc_new _ _)
 have hq1:w1.heap[w.heap.size+1]? = some (.cells (rcA rmZ) recT (0,0)):=by
  rw [←hw1]
  have:=heap_alloc_new (w.alloc (.cells (inA c) inpT)) (.cells (rcA rmZ) recT)
  simpa using this
 have hs1:w1.heap.size=w.heap.size+2:=by rw [←hw1];simp
 have hld:=ldInp_at hr1
 have HDr:=Lib.hid (EDraft_any A ac rl c w1 (h.keep hb1) hz (hE.go hb1) (hr.keep hb1) hrz hR)
 have HIn:Hid (∀ W:World,Below w1.heap.size w1 W→W.cell? ⟨w.heap.size,1,none⟩=some (.slice c.tA c.tds.length c.tc)∧W.cell? ⟨w.heap.size,2,none⟩=some (.int .i64 c.ix)):=Lib.hid fun W hW=>by
  have h2:=(hW.block _ (blk_lt' hr1)).trans hr1
  exact ⟨cellOf h2 rfl,cellOf h2 rfl⟩
 have HFi:=Lib.hid (fun (x:Dm) (W:World) (hW:Below w.heap.size w W) (hN:DmN W x) (hG:GdD x.d 100000)=>Finish_any x c.tA c.tc c.tds c.ix 100000 W hN hG (Nat.le_refl _) (h.tr.keep hW) (fun d hd=>(hz.dv d hd).1) hz.ix1 hz.ix2 (hE.go hW).toEnv.toEnv0)
 unfold trV at HFi
 unfold DraftQ at HDr
 unfold RulesQ
 have hlW:w.heap.size<w1.heap.size:=by omega
 have HB1:=Lib.hid hb1
 have HW1:=Lib.hid hw1
 have HQ1:=Lib.hid hq1
 have HS1:=Lib.hid hs1
 have hrz0:rcA rmZ=#[.string ⟨#[]⟩,.int .i64 0,.slice none 0 0,.slice none 0 0,.slice none 0 0,.slice none 0 0,.slice none 0 0,.string ⟨#[]⟩,.int .i64 0,.string ⟨#[]⟩,.string ⟨#[]⟩,.int .i64 0]:=rfl
 clear h hz hE hr hrz hR hb1 hr1 hq1 hs1 hw1
 unfold inA at *
 rw [hrz0] at HW1
 clear hrz0
 cases hf:findD (dsD c.tds) c.ix with
 | none =>
   rw [hf] at HDr
   dsimp only at HDr ⊢
   clear hf HFi
   have hbd:=rec0_build
   go_enter Tryz.func7,Tryz.ntmps7
   go_upto_region 1 with fail
   rw [HW1.out]
   go_wp2_with (go_at_call 24;refine HDr.out.mono ?_;rintro e w2 ⟨rfl,hb2⟩;(have hb3:=(bAl hb2:Below w1.heap.size w1 (w2.alloc (.cells #[.slice none 0 0,.slice none 0 0,.slice none 0 0,.slice none 0 0,.slice none 0 0,.string ⟨#[]⟩,.int .i64 0,.string ⟨#[]⟩,.string ⟨#[]⟩,.int .i64 0,.string ⟨#[]⟩,.int .i64 0,.int .i64 0,.slice none 0 0] drT))));have HB3:=Lib.hid (bRow (cs:=drA dmZ) hb3 hb2.size);have hst0:=stD_at (heap_alloc_new w2 (.cells #[.slice none 0 0,.slice none 0 0,.slice none 0 0,.slice none 0 0,.slice none 0 0,.string ⟨#[]⟩,.int .i64 0,.string ⟨#[]⟩,.string ⟨#[]⟩,.int .i64 0,.string ⟨#[]⟩,.int .i64 0,.int .i64 0,.slice none 0 0] drT)) rfl dmZ;(have hx2:=(HB3.out.block _ (blk_lt' HQ1.out)).trans HQ1.out);have HX2:=Lib.hid hx2;have hst:=stRec_at hx2 rfl rmZ;clear hb2 hb3 hx2 hld)
   refine post_cr3 rfl (by rfl) (by rfl) (by rfl) (setRow_heap _ _ _ _ _ _ HX2.out) Tryz.underlying34 rfl (by exact rcSize) (by rfl) ?_
   exact ⟨rfl,bRow (bt HB1.out HB3.out) (by omega)⟩
 | some d =>
   rw [hf] at HDr
   dsimp only at HDr ⊢
   have HFi2:=Lib.hid (fun (x:Dm) (W:World) (hW:Below w.heap.size w W) (hN:DmN W x) (hG:GdD x.d 100000)=>by
    have h9:=HFi.out x W hW hN hG
    unfold FinP at h9
    rw [hf] at h9
    exact h9)
   clear hf HFi
   go_enter Tryz.func7,Tryz.ntmps7
   go_upto_region 1 with fail
   rw [HW1.out]
   go_upto_region 2 with (go_at_call 24;refine HDr.out.mono ?_;rintro e w2 ⟨x,rfl,hx,hN,hG,_,hb2⟩;have hst0:=stD_at (heap_alloc_new w2 (.cells #[.slice none 0 0,.slice none 0 0,.slice none 0 0,.slice none 0 0,.slice none 0 0,.string ⟨#[]⟩,.int .i64 0,.string ⟨#[]⟩,.string ⟨#[]⟩,.int .i64 0,.string ⟨#[]⟩,.int .i64 0,.int .i64 0,.slice none 0 0] drT)) rfl x;have HX:=Lib.hid hx;have HN2:=Lib.hid hN;have HG2:=Lib.hid hG;have HB2:=Lib.hid hb2;clear hx hN hG hb2 hld)
   clear hst0
   obtain ⟨w3,hw3⟩:∃ w3,(w2.alloc (.cells #[.slice none 0 0,.slice none 0 0,.slice none 0 0,.slice none 0 0,.slice none 0 0,.string ⟨#[]⟩,.int .i64 0,.string ⟨#[]⟩,.string ⟨#[]⟩,.int .i64 0,.string ⟨#[]⟩,.int .i64 0,.int .i64 0,.slice none 0 0] drT)).setRow w2.heap.size (drA x)=w3:=⟨_,rfl⟩
   rw [hw3]
   have hb3:Below w2.heap.size w2 w3:=by rw [←hw3];exact bRow (below_alloc _ _) (Nat.le_refl _)
   have hr3:w3.heap[w2.heap.size]? = some (.cells (drA x) drT (0,0)):=by rw [←hw3];exact setRow_heap _ _ _ _ _ _ (heap_alloc_new _ _)
   have HB3:=Lib.hid (bt HB2.out hb3:Below w1.heap.size w1 w3)
   have HR3:=Lib.hid hr3
   have HN3:=Lib.hid (HN2.out.keep hb3)
   have hld3:=stD_ld hr3
   obtain ⟨c1,c2⟩:=HIn.out w3 HB3.out
   have hlw3:w.heap.size<w3.heap.size:=Nat.lt_of_lt_of_le hlW HB3.out.size
   have HFi3:=Lib.hid (HFi2.out x w3 (bt HB1.out HB3.out) HN3.out HG2.out)
   clear hw3 hb3 hr3
   go_upto_region 5 with (go_at_call 9;refine HFi3.out.mono ?_;rintro e w4 ⟨r,rfl,hrd,hrn,hrl,hb4⟩;have hst4:=stRec_at (heap_alloc_new w4 (.cells #[.string ⟨#[]⟩,.int .i64 0,.slice none 0 0,.slice none 0 0,.slice none 0 0,.slice none 0 0,.slice none 0 0,.string ⟨#[]⟩,.int .i64 0,.string ⟨#[]⟩,.string ⟨#[]⟩,.int .i64 0] recT)) rfl r;have HRd:=Lib.hid hrd;have HRn:=Lib.hid hrn;have HB4:=Lib.hid hb4;have HRl:=Lib.hid hrl;clear hrd hrn hrl hb4 c1 c2 hld3)
   clear hst4
   obtain ⟨w5,hw5⟩:∃ w5,(w4.alloc (.cells #[.string ⟨#[]⟩,.int .i64 0,.slice none 0 0,.slice none 0 0,.slice none 0 0,.slice none 0 0,.slice none 0 0,.string ⟨#[]⟩,.int .i64 0,.string ⟨#[]⟩,.string ⟨#[]⟩,.int .i64 0] recT)).setRow w4.heap.size (rcA r)=w5:=⟨_,rfl⟩
   rw [hw5]
   have hb5:Below w4.heap.size w4 w5:=by rw [←hw5];exact bRow (below_alloc _ _) (Nat.le_refl _)
   have hr5:w5.heap[w4.heap.size]? = some (.cells (rcA r) recT (0,0)):=by rw [←hw5];exact setRow_heap _ _ _ _ _ _ (heap_alloc_new _ _)
   have hb35:Below w3.heap.size w3 w5:=bt HB4.out hb5
   have HB5:=Lib.hid hb35
   have HN5:=Lib.hid (HRn.out.keep hb5)
   have hq5:=((bt HB3.out hb35).block _ (blk_lt' HQ1.out)).trans HQ1.out
   have HQ5:=Lib.hid hq5
   have hst:=stRec_at (w:=w5.drew) hq5 rfl r
   have hSa:(ldG recT (.pointer (some ⟨w4.heap.size,0,none⟩))).run Tryz.prog w5.drew=.ok (.agg (rcA r)) w5.drew∧w5.drew.cell? ⟨w2.heap.size,12,none⟩=some (.int .i64 x.ticks):=⟨ldRec_at hr5,cellOf ((hb35.block _ (blk_lt' HR3.out)).trans HR3.out) rfl⟩
   have z2:=blk_lt' HR3.out
   have z4:=HB4.out.size
   have z1:=HS1.out
   have z0:=HB2.out.size
   have hw2:w.heap.size+1<w2.heap.size:=by omega
   have hw4:w.heap.size+1<w4.heap.size:=by omega
   have hSb:(ldG recT (.pointer (some ⟨w4.heap.size,0,none⟩))).run Tryz.prog (w5.drew.setRow (w.heap.size+1) (rcA r))=.ok (.agg (rcA r)) (w5.drew.setRow (w.heap.size+1) (rcA r))∧(w5.drew.setRow (w.heap.size+1) (rcA r)).cell? ⟨w2.heap.size,12,none⟩=some (.int .i64 x.ticks) :=
    ⟨ldRec_at (((grown_setRow w5.drew (w.heap.size+1) (rcA r)).block _ (blk_lt' hr5) (fun e=>by have:=Option.some.inj e;omega)).trans hr5),cellOf ((((grown_setRow w5.drew (w.heap.size+1) (rcA r)).block _ (Nat.lt_of_lt_of_le z2 hb35.size) (fun e=>by have:=Option.some.inj e;omega)).trans (hb35.block _ z2)).trans HR3.out) rfl⟩
   have HSa:=Lib.hid hSa
   have HSb:=Lib.hid hSb
   clear hSa hSb hb35 hb5 hr5 hq5 hw5
   go_region_held3 (fun W=>(ldG recT (.pointer (some ⟨w4.heap.size,0,none⟩))).run Tryz.prog W=.ok (.agg (rcA r)) W∧W.cell? ⟨w2.heap.size,12,none⟩=some (.int .i64 x.ticks)) ((first | exact HSa.out | exact HSb.out)) (fail)
   go_wp2
   refine post_cr3 rfl (by rfl) (by rfl) (by rfl) (setRow_heap w5.drew (w.heap.size+1) (rcA rmZ) (rcA r) recT (0,0) HQ5.out) Tryz.underlying34 rfl (by exact rcSize) (by rfl) ?_
   refine ⟨r,by rw [←HX.out];rfl,by rw [HRd.out,HX.out],RmN.grown (HN5.out.keep (Below.refl _ _).drew) (grown_setRow w5.drew _ _) (fun a ha p e=>?_),fun a ha p e=>(by have k1:=HRl.out a ha p e;have k2:=HB3.out.size;have k3:=HB1.out.size;omega),?_⟩
   · have k1:=HRl.out a ha p e
     have k2:=HB3.out.size
     omega
   · exact bRow ((bt HB1.out (bt HB3.out HB5.out)).drew) (by omega)
end
section
abbrev inZ:EmC:=⟨⟨#[]⟩,none,0,[],0,rmZ,⟨none,0,[]⟩,0,dv0,⟨#[]⟩,⟨#[]⟩⟩
theorem mapGo_len (f:Int→Int):∀ (n:Nat) (l:List UInt8),(Lib.mapGoD f n l).length≤4*n
 | 0,l=>by rw [Lib.mapGoD];simp
 | n + 1,l=>by
   rw [Lib.mapGoD]
   split
   · simp
   · rw [List.length_append]
     have h1:=mapGo_len f n (l.drop (Lib.decodeL l).2)
     have h2:(if 0≤f (Lib.decodeL l).1 then Lib.encodeRune (f (Lib.decodeL l).1) else []).length≤4:=by
      split
      · have:=(Lib.encodeRuneZ_length (f (Lib.decodeL l).1)).2
        simpa [Lib.encodeRune] using this
      · simp
     omega
theorem setN_val {l:List At} {k v:ByteArray} {n:Nat} (h:∀ x∈l,x.val.size≤n) (hv:v.size≤n):∀ x∈setN l k v,x.val.size≤n:=by
 intro x hx
 unfold setN at hx
 split at hx
 · exact h x hx
 · rcases mem_setP hx with h1 | ⟨h1,_⟩
   · exact h x h1
   · rw [h1];exact hv
theorem netN_val {l:List At} {k h:ByteArray} {v:Option ByteArray} {n:Nat} (hl:∀ x∈l,x.val.size≤n) (hn:15≤n):∀ x∈netN l k h v,x.val.size≤n:=by
 unfold netN
 split
 · split
   · rename_i v hi
     refine setN_val hl ?_
     unfold ifaceB at hi
     simp only [Bool.and_eq_true,decide_eq_true_eq] at hi
     have:=hi.1.2
     rw [len_L] at this
     omega
   · exact hl
 · exact hl
theorem pathT_size (l:List Dd):(pathT l).size≤256:=by
 cases l with
 | nil=>exact Nat.zero_le _
 | cons d r=>unfold pathT;rw [size_extract];omega
theorem contT_size (s:ByteArray):∀ u i l,contT s=some (u,i,l)→u.size≤256∧i.size≤256∧l.size≤256:=by
 intro u i l h
 unfold contT at h
 repeat' split at h
 all_goals first
  | (cases h;done)
  | (injection h with h;injection h with h1 h2;injection h2 with h2 h3;subst h1 h2 h3;decide)
theorem runB_val (nm:ByteArray) (l:List Dd) (n:Int):∀ x∈runB nm l n,x.val.size≤1024:=by
 have hnil:∀ x∈([]:List At),x.val.size≤1024:=fun x hx=>by cases hx
 unfold runB
 split
 · unfold pathS
   split
   · intro x hx
     simp only [List.mem_cons,List.not_mem_nil,or_false] at hx
     rcases hx with rfl | rfl
     · have:=pathT_size (chS l n);show (pathT (chS l n)).size≤1024;omega
     · show (bs _).size≤1024
       rw [size_bs]
       unfold Lib.mapD
       have h1:=mapGo_len wordI (L (pathT (chS l n))).length (L (pathT (chS l n)))
       have h2:=pathT_size (chS l n)
       rw [len_L] at h1 ⊢
       omega
   · exact hnil
 split
 · split
   · unfold contS
     split
     · split
       · rename_i u i l' hc
         obtain ⟨h1,h2,h3⟩:=contT_size _ _ _ _ hc
         exact setN_val (setN_val (setN_val hnil (by omega)) (by omega)) (by omega)
       · exact hnil
     · exact hnil
   · exact hnil
 split
 · split
   · unfold netS
     split
     · exact netN_val (netN_val (netN_val hnil (by omega)) (by omega)) (by omega)
     · exact hnil
   · exact hnil
 · exact hnil
end
end Go.Proofs.YtobcmlmbblgcdaaGreatDoor

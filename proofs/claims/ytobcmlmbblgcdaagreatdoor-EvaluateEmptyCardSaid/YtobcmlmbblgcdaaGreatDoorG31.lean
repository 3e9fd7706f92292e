/-
  Contract of the program's Apply.
  Contract of the program's Import.
  Contract of helper's Items.
  The reference's Node, Beneath, Sorted, Interface, Link and Place: some answer each.
  Contract of the program's Ancestor of upward matches.
  slices.ContainsFunc at the closure of the program's Ancestor.
  A device ahead of a row of devices (append onto a fresh row of one).
  Contract of the program's Ancestor.
-/
import Derived.Test.YtobcmlmbblgcdaaGreatDoorG26
import Derived.Test.YtobcmlmbblgcdaaGreatDoorG16
import Derived.Shelf.SlicesQ.IndexFunc
import Derived.Test.YtobcmlmbblgcdaaGreatDoorG22
import Derived.Test.YtobcmlmbblgcdaaGreatDoorG05
import Derived.Test.YtobcmlmbblgcdaaGreatDoorG00
import Derived.Deep.AppendSrc
namespace Go.Proofs.YtobcmlmbblgcdaaGreatDoor
set_option maxRecDepth 100000
section
open Go.RowKit Go.Shelf Go.Maps
instance:Inhabited Tm:=⟨⟨0,⟨#[]⟩,0,⟨#[]⟩⟩⟩
theorem applyC_any (ky:Int) (nm:ByteArray) (B:Nat) (w:World) (hB:B<w.heap.size) (h0:w.cell? ⟨B,0,none⟩=some (.int .i64 ky)) (h1:w.cell? ⟨B,1,none⟩=some (.string nm)) :
 PredBelow Tryz.prog 144 #[.pointer (some ⟨B,0,none⟩)] (fun c=>.agg (encTm c).toArray) (fun c:Tm=>c.key == ky && L c.name == L nm) w:=fun W c hb=>by
 have c0:W.cell? ⟨B,0,none⟩=some (.int .i64 ky):=(hb.cell (p:=⟨B,0,none⟩) hB).trans h0
 have c1:W.cell? ⟨B,1,none⟩=some (.string nm):=(hb.cell (p:=⟨B,1,none⟩) hB).trans h1
 have hBW:B<W.heap.size:=Nat.lt_of_lt_of_le hB hb.size
 have hne:B≠W.heap.size:=by omega
 show Calls Tryz.prog 144 #[.agg #[.int .i64 c.key,.string c.name,.int .i64 c.op,.string c.value],.pointer (some ⟨B,0,none⟩)] W fun e w'=>e=.returned (.bool (c.key == ky && L c.name == L nm))∧Below w.heap.size w w'
 have e1:(L c.name == L nm)=(c.name.toList == nm.toList):=by rw [tl,tl]
 rw [e1]
 clear e1
 by_cases hk:c.key=ky
 · go_enter Tryz.func144,Tryz.ntmps144
   go_wp2
   all_goals (go_ret;exact ⟨ret_bool (by simp [*]),hb.alloc hb.size _⟩)
 · go_enter Tryz.func144,Tryz.ntmps144
   go_wp2
   all_goals (go_ret;exact ⟨ret_bool (by simp [*]),hb.alloc hb.size _⟩)
theorem IndexT_none (fv:Value) (w:World):Calls Tryz.prog 155 #[.slice none 0 0,fv] w fun e w'=>e=.returned (.int .i64 (-1))∧w'=w:=by
 go_enter Tryz.func155,Tryz.ntmps155
 go_wp2
 go_loopg [5,8] 0 (fun _ _ s8 wr=>s8=.int .i64 0∧wr=w)
 case atStart=>exact ⟨rfl,rfl⟩
 case round =>
  obtain ⟨rfl,rfl⟩:=hrel
  go_wp2
  go_ret
  exact ⟨rfl,rfl⟩
theorem ContT_none (fv:Value) (w:World):Calls Tryz.prog 133 #[.slice none 0 0,fv] w fun e w'=>e=.returned (.bool false)∧w'=w:=by
 have HI:=Lib.hid (IndexT_none fv w)
 go_enter Tryz.func133,Tryz.ntmps133
 go_wp2_with (go_at_call 155;refine HI.out.mono ?_;rintro e w2 ⟨rfl,rfl⟩)
 go_ret
 exact ⟨rfl,rfl⟩
theorem ContT_any (g:Nat) (lb:Array Value) (eg:∀ args w,(callFunc g args).run Tryz.prog w=.ok (.enter g args) w) (p:Tm→Bool) (A:Option Addr) (c:Nat) (l:List Tm) (w:World) (hr:RowN w A 4 l.length (cellsOf encTm l)) (hnil:A=none→c=0) (hl:l.length≤1000000000)
 (hp:PredBelow Tryz.prog g lb (fun c=>.agg (encTm c).toArray) p w) :
 Calls Tryz.prog 133 #[.slice A l.length c,.func (.func g) #[] lb] w fun e w'=>e=.returned (.bool (l.any p))∧Below w.heap.size w w':=by
 cases A with
 | none =>
   have h0:l=[]:=by
    rcases Nat.eq_zero_or_pos l.length with e | e
    · exact List.length_eq_zero_iff.1 e
    · obtain ⟨_,_,e2,_⟩:=hr.row.at_ e
      cases e2
   subst h0
   rw [hnil rfl]
   exact (ContT_none _ w).mono fun _ _ ⟨h1,h2⟩=>⟨h1,by rw [h2];exact Below.refl _ _⟩
 | some a =>
   obtain ⟨ea,hlt⟩:=hr.pl a rfl
   rw [ea] at hr ⊢
   have h:=AnyQ.slices_ContainsFunc (ρ:=laysCnM_ren) (P:=Tryz.prog) laysCnM 4 (by exact Tryz.isAgg46) (by exact Tryz.sizeOf46) encTm (fun _=>rfl) p g lb eg a.block a.off l.length c l w hp (Nat.le_refl _) (by omega) hlt (fun j hj i v hv=>by
    obtain ⟨b,off,e,hb,hc⟩:=hr.row.cell encTm_len (by omega:0<l.length)
    injection e with e
    injection e with e3 e4
    rw [e3,e4,Nat.add_assoc]
    refine hc j l[j]! ?_ i v hv
    rw [getElem!_pos l j hj,List.getElem?_eq_getElem hj])
   rw [List.take_length] at h
   exact h
theorem bu_tm (parts:Array (Nat × Value)):Instr.build 46 parts=buG 46 parts:=by unfold buG;rfl
theorem key_build (ky:Int) (nm:ByteArray) (W:World):(buG 46 #[(0,.int .i64 ky),(1,.string nm)]).run Tryz.prog W=.ok (.agg #[.int .i64 ky,.string nm,.int .i64 0,.string ⟨#[]⟩]) W:=by
 unfold buG
 exact run_build W _ _ _ (by kernel_rfl)
theorem app_tm {B:Nat} {A:Option Addr} {c:Nat} {l:List Tm} (t:Tm) (w:World) (h:w.ownsRow B trmT 4 (.slice A l.length c) l.length (cellsOf encTm l)) (hl:l.length≤1000000) (hB:B≤w.heap.size) :
 ∃ A' c' w',(apG #[42,42] 42 #[.slice A l.length c,.slice (some ⟨w.heap.size,0,none⟩) 1 1]).run Tryz.prog (w.alloc (.cells #[.int .i64 t.key,.string t.name,.int .i64 t.op,.string t.value] 46))=.ok (.slice A' (l.length+1) c') w'∧w'.ownsRow B trmT 4 (.slice A' (l.length+1) c') (l.length+1) (cellsOf encTm (l++[t]))∧w.grownBy w' (Value.slice A l.length c).ownBlock∧∀ p,A'=some p→w.heap.size≤p.block∨∃ q,A=some q∧q.block=p.block:=by
 obtain ⟨i0,hi0,hz0,hz1,hz2⟩:=info_parts termInfoM
 obtain ⟨v',w',h1,h2,h3,_,h5⟩:=run_append_own_at (P:=Tryz.prog) (w.alloc (.cells #[.int .i64 t.key,.string t.name,.int .i64 t.op,.string t.value] 46)) B 42 42 46 i0 _ 4 48 Tryz.underlying42 hi0 hz0 hz1 hz2 rfl (by decide) (.slice A l.length c) l.length _ (own_below2 h (below_alloc _ _)) ⟨w.heap.size,0,none⟩ 1 1 (encTm t) rfl (fun j u hu=>by
  rw [add_at,Nat.zero_add]
  exact cellOf (heap_alloc_new w _) (by rw [←hu,←Array.getElem?_toList];rfl)) (by simp [encTm,Value.oneCell']) (by unfold maxLen;omega) (by omega) (Nat.le_trans hB (below_alloc w _).size)
 rw [ap_g] at h1
 obtain ⟨NA,nc,rfl⟩:=own_slice h2
 have hc:cellsOf encTm (l++[t])=cellsOf encTm l++encTm t:=by rw [cellsOf_append];simp [cellsOf]
 refine ⟨NA,nc,w',h1,by rw [hc];exact h2,(grown_below (below_alloc w _) _).trans h3,fun p hp=>?_⟩
 have hpb:(Value.slice NA (l.length+1) nc).ownBlock=some p.block:=by rw [hp];rfl
 rcases h5 with k | k
 · rw [hpb] at k
   obtain ⟨q,e1,e2⟩:=slice_own k.symm
   exact Or.inr ⟨q,e1,e2⟩
 · rw [hpb] at k
   have:=Option.some.inj k
   have:=(below_alloc w (.cells #[.int .i64 t.key,.string t.name,.int .i64 t.op,.string t.value] 46)).size
   exact Or.inl (by omega)
theorem EdP.q {B g:Nat} {y:Dm} {w:World} {d':Dr} {e:Ending} {w':World} (h:EdP B g y w d' e w'):e=.returned (.tuple #[])∧∃ y',y'.d=d'∧EdQ B g y w y' w':=by
 obtain ⟨h1,y',h2,h3,h4,h5⟩:=h
 exact ⟨h1,y',h2,h3,h4,h5⟩
theorem bt2 {B:Nat} {w1 w2 w3:World} (h:Below B w1 w2) (h2:Below B w2 w3):Below B w1 w3:=h.trans h2
def DrP (w:World) (d:Dr) (e:Ending) (w':World):Prop:=∃ y,e=.returned (.agg (drA y))∧y.d=d∧DmO w.heap.size w' y∧Below w.heap.size w w'
abbrev dmZ:Dm:=dm0 ⟨none,0,[]⟩ ⟨#[]⟩ 0
theorem GdD.dmz {d:Dr} {k:Nat} (h:GdD d k) (hk:k≤100000):DmZ d:=⟨by have:=h.pl;omega,by have:=h.tl;omega,by have:=h.ll;omega,by have:=h.rl;omega,by have:=h.dl;omega,by have:=h.cl;omega⟩
attribute [local go_sem ↓] bu_tm ap_g
set_option maxHeartbeats 4000000 in
theorem Apply_any (x:Dm) (t:Tm) (v:ByteArray) (k:Nat) (w:World) (hN:DmN w x) (hG:GdD x.d k) (hk:k≤100000) (hE:Env w) (hv:v.size≤1000000) (hK:KeyS t) :
 Calls Tryz.prog 114 #[.agg (drA x),tmV t,.string v] w (DrP w (applyS x.d t v)):=by
 obtain ⟨ky,nmm,op,vl⟩:=t
 have HKs:Hid (KeyS ⟨ky,nmm,op,vl⟩):=Lib.hid hK
 clear hK
 obtain ⟨w1,hw1⟩:∃ w1,((w.alloc (.cells (drA x) drT)).alloc (.cells #[.int .i64 ky,.string nmm,.int .i64 op,.string vl] 46)).alloc (.cells (drA dmZ) drT)=w1:=⟨_,rfl⟩
 obtain ⟨hs1,k0,k1,k2,hb1⟩:=alloc3 w (.cells (drA x) drT) (.cells #[.int .i64 ky,.string nmm,.int .i64 op,.string vl] 46) (.cells (drA dmZ) drT)
 rw [hw1] at hs1 k0 k1 k2 hb1
 have HEd:=Lib.hid (Edit_any x w1 (hN.keep hb1) (hG.dmz hk))
 have HW:=Lib.hid hw1
 have HB1:=Lib.hid hb1
 have HK0:=Lib.hid k0
 have HK1:=Lib.hid k1
 have HK2:=Lib.hid k2
 have HS1:=Lib.hid hs1
 have HG:=Lib.hid hG
 have HEn:=Lib.hid hE
 have hx:drA dmZ=#[.slice none 0 0,.slice none 0 0,.slice none 0 0,.slice none 0 0,.slice none 0 0,.string ⟨#[]⟩,.int .i64 0,.string ⟨#[]⟩,.string ⟨#[]⟩,.int .i64 0,.string ⟨#[]⟩,.int .i64 0,.int .i64 0,.slice none 0 0]:=rfl
 have hx2:drA x=#[.slice x.props.A x.props.l.length x.props.c,.slice x.tags.A x.tags.l.length x.tags.c,.slice x.links.A x.links.l.length x.links.c,.slice x.run.A x.run.l.length x.run.c,.slice x.load.A x.load.l.length x.load.c,.string x.nam,.int .i64 x.prio,.string x.own,.string x.grp,.int .i64 x.mode,.string x.res,.int .i64 x.calls,.int .i64 x.ticks,.slice x.closed.A x.closed.l.length x.closed.c]:=rfl
 rw [hx] at HW
 clear hx hw1 hs1 k0 k1 k2 hb1 hG hE hN hx2
 unfold tmV
 dsimp only
 go_enter Tryz.func114,Tryz.ntmps114
 go_upto_region 1 with fail
 rw [HW.out]
 have hkb:=key_build ky nmm
 go_upto_region 2 with (first
  | (go_at_call 30;refine HEd.out.mono ?_;rintro e w2 ⟨z,g,rfl,hzd,hE,hb2⟩;have HE:=Lib.hid hE;have HB2:=Lib.hid hb2;have HZ:=Lib.hid hzd;clear hE hb2 hzd)
  | (refine wpList_load_row rfl 52 _ rfl _ rfl _ _ _ _ HK0.out Tryz.underlying52 rfl (by exact drSize) ?_))
 have ht2:=(HB2.out.block _ (blk_lt' HK1.out)).trans HK1.out
 have c0:w2.cell? ⟨w.heap.size+1,0,none⟩=some (.int .i64 ky):=cellOf ht2 rfl
 have c1:w2.cell? ⟨w.heap.size+1,1,none⟩=some (.string nmm):=cellOf ht2 rfl
 clear ht2
 go_upto_region 3 with fail
 clear c0 c1 hkb
 obtain ⟨w3,hw3⟩:∃ w3,w2.alloc (.cells #[.int .i64 ky,.string nmm,.int .i64 0,.string ⟨#[]⟩] 46)=w3:=⟨_,rfl⟩
 rw [hw3]
 have hb3:Below w2.heap.size w2 w3:=by rw [←hw3];exact below_alloc _ _
 have hk3:w3.heap[w2.heap.size]? = some (.cells #[.int .i64 ky,.string nmm,.int .i64 0,.string ⟨#[]⟩] 46 (0,0)):=by rw [←hw3];exact heap_alloc_new _ _
 have hE3:=HE.out.below hb3
 have hcl:=(LsN.of_own hE3.rows.cl).1
 have HCl:=Lib.hid (ContT_any 144 #[.pointer (some ⟨w2.heap.size,0,none⟩)] (fun _ _=>rfl) (fun c:Tm=>c.key == ky && L c.name == L nmm) z.closed.A z.closed.c z.closed.l w3 hcl.row hcl.nil (by have h:=HG.out.cl;have e:z.d.closed=z.closed.l:=rfl;rw [←e,HZ.out];omega) (applyC_any ky nmm w2.heap.size w3 (blk_lt' hk3) (cellOf hk3 rfl) (cellOf hk3 rfl)))
 have hcb:(z.closed.l.any fun c:Tm=>c.key == ky && L c.name == L nmm)=closedB x.d ⟨ky,nmm,op,vl⟩:=by
  have e:z.d.closed=z.closed.l:=rfl
  rw [←e,HZ.out];rfl
 rw [hcb] at HCl
 have q13:w3.cell? ⟨g,13,none⟩=some (.slice z.closed.A z.closed.l.length z.closed.c):=cellOf hE3.box rfl
 have HE3:=Lib.hid hE3
 have HK3:=Lib.hid hk3
 have HB23:=Lib.hid (bt HB2.out hb3)
 clear hcl hcb hw3 hb3 hk3 hE3
 cases hc:closedB x.d ⟨ky,nmm,op,vl⟩ with
 | true =>
   rw [hc] at HCl
   have HCl2:=Lib.hid HCl.out
   have HEq:Hid (applyS x.d ⟨ky,nmm,op,vl⟩ v=x.d):=Lib.hid (by unfold applyS;rw [if_pos hc])
   clear HCl hc
   go_wp2_with (first
    | (go_at_call 133;refine HCl2.out.mono ?_;rintro e w4 ⟨rfl,hb4⟩;have HE4:=Lib.hid (HE3.out.below hb4);have HB4:=Lib.hid (bt HB23.out hb4);have HX4:=Lib.hid ((HB4.out.block _ (blk_lt' HK2.out)).trans HK2.out);clear hb4)
    | (refine wpList_load_row rfl 52 _ rfl _ rfl _ _ _ _ HE4.out.box Tryz.underlying52 rfl (by exact drSize) ?_)
    | (refine wpList_store_row rfl 52 _ _ rfl _ _ rfl rfl _ _ HX4.out (by exact drSize) rfl (by exact drA_one _) ?_))
   refine post_cr1 rfl (by rfl) (setRow_heap _ _ _ _ _ _ HX4.out) Tryz.underlying52 rfl (by exact drSize) (by rfl) ?_
   have hs:=HS1.out
   exact ⟨z,rfl,by rw [HEq.out];exact HZ.out,(HE4.out.rows.row (by omega)).base (by omega),bRow (bt HB1.out HB4.out) (by omega)⟩
 | false =>
   rw [hc] at HCl
   have HCl2:=Lib.hid HCl.out
   have HEq:Hid (applyS x.d ⟨ky,nmm,op,vl⟩ v=if op=6 then { asgS x.d ⟨ky,nmm,op,vl⟩ v with closed:=(asgS x.d ⟨ky,nmm,op,vl⟩ v).closed++[keyTm ⟨ky,nmm,op,vl⟩] } else asgS x.d ⟨ky,nmm,op,vl⟩ v):=Lib.hid (by unfold applyS;rw [hc];rfl)
   have HT:Hid (∀ W,Below w1.heap.size w1 W→W.cell? ⟨w.heap.size+1,0,none⟩=some (.int .i64 ky)∧W.cell? ⟨w.heap.size+1,1,none⟩=some (.string nmm)∧W.cell? ⟨w.heap.size+1,2,none⟩=some (.int .i64 op)∧W.cell? ⟨w.heap.size+1,3,none⟩=some (.string vl)):=Lib.hid fun W hW=>by
    have h1:=(hW.block _ (blk_lt' HK1.out)).trans HK1.out
    exact ⟨cellOf h1 rfl,cellOf h1 rfl,cellOf h1 rfl,cellOf h1 rfl⟩
   have HAs:=Lib.hid (fun (W:World) (hW:Below w3.heap.size w3 W)=>PAsg_any w1.heap.size g z ⟨ky,nmm,op,vl⟩ v W (HE3.out.below hW) (by rw [HZ.out];exact HG.out.edz) (((HEn.out.go HB1.out).go HB23.out).go hW) (HEn.out.go HB1.out).toEnv0.size hv HKs.out)
   clear HCl hc
   unfold tmV at HAs
   dsimp only at HAs
   go_upto_region 6 with (first
    | (go_at_call 133;refine HCl2.out.mono ?_;rintro e w4 ⟨rfl,hb4⟩;have HB34:=Lib.hid hb4;have HB4:=Lib.hid (bt HB23.out hb4);obtain ⟨c0,c1,c2,c3⟩:=HT.out w4 HB4.out;clear hb4)
    | (go_at_call 145;refine (HAs.out _ HB34.out).mono ?_;rintro e w5 hP;obtain ⟨rfl,y5,hy5,hq5⟩:=EdP.q hP;have HQ5:=Lib.hid hq5;have HY5:=Lib.hid hy5;have HB5:=Lib.hid (bt2 HB4.out hq5.b);clear hP hq5 hy5 c0 c1 c2 c3))
   have hKlt:w2.heap.size<w4.heap.size:=by have:=HK3.out;have h1:=blk_lt' this;exact Nat.lt_of_lt_of_le h1 HB34.out.size
   have hgl:g<w2.heap.size:=blk_lt' HE.out.box
   have hk5:w5.heap[w2.heap.size]? = some (.cells #[.int .i64 ky,.string nmm,.int .i64 0,.string ⟨#[]⟩] 46 (0,0)):=by
    rw [HQ5.out.r.fr w2.heap.size hKlt (by omega) (fun a ha p e=>by have:=HE.out.rows.lt a ha p e;omega)]
    exact (HB34.out.block _ (blk_lt' HK3.out)).trans HK3.out
   obtain ⟨c0,c1,c2,c3⟩:=HT.out w5 HB5.out
   have HK5:=Lib.hid hk5
   have HX5:=Lib.hid ((HB5.out.block _ (blk_lt' HK2.out)).trans HK2.out)
   clear hk5 c0 c1 c3
   by_cases h6:op=6
   · subst h6
     rw [if_pos rfl] at HEq
     go_upto_region 7 with fail
     have hed:=HQ5.out.ed
     have hcl5:y5.closed.l.length≤1000000:=by
      have h1:=(HG.out.asg ⟨ky,nmm,6,vl⟩ hv).cl
      rw [←HZ.out,←HY5.out] at h1
      have e:y5.d.closed=y5.closed.l:=rfl
      rw [e] at h1;omega
     have hd5:Below w5.heap.size w5 w5.drew:=(Below.refl _ _).drew
     have hedd:=hed.below hd5
     obtain ⟨A6,c6,w6,hap,hown,hgr,hA6⟩:=app_tm (keyTm ⟨ky,nmm,6,vl⟩) w5.drew hedd.rows.cl hcl5 (Nat.le_trans hedd.lo (Nat.le_of_lt (blk_lt' hedd.box)))
     have hap1:(apG #[42,42] 42 #[.slice y5.closed.A y5.closed.l.length y5.closed.c,.slice (some ⟨w5.heap.size,0,none⟩) 1 1]).run Tryz.prog (w5.alloc (.cells #[.int .i64 ky,.string nmm,.int .i64 0,.string ⟨#[]⟩] 46)).drew=.ok (.slice A6 (y5.closed.l.length+1) c6) w6:=hap
     have q13:w5.drew.cell? ⟨g,13,none⟩=some (.slice y5.closed.A y5.closed.l.length y5.closed.c):=cellOf hedd.box rfl
     have ha5:Below w5.heap.size w5 (w5.alloc (.cells #[.int .i64 ky,.string nmm,.int .i64 0,.string ⟨#[]⟩] 46)).drew:=(below_alloc w5 _).drew
     have q13b:(w5.alloc (.cells #[.int .i64 ky,.string nmm,.int .i64 0,.string ⟨#[]⟩] 46)).drew.cell? ⟨g,13,none⟩=some (.slice y5.closed.A y5.closed.l.length y5.closed.c):=cellOf (hed.below ha5).box rfl
     have hkd:=(hd5.block _ (blk_lt' HK5.out)).trans HK5.out
     have k0:w5.drew.cell? ⟨w2.heap.size,0,none⟩=some (.int .i64 ky):=cellOf hkd rfl
     have k1:w5.drew.cell? ⟨w2.heap.size,1,none⟩=some (.string nmm):=cellOf hkd rfl
     have k2:w5.drew.cell? ⟨w2.heap.size,2,none⟩=some (.int .i64 0):=cellOf hkd rfl
     have k3:w5.drew.cell? ⟨w2.heap.size,3,none⟩=some (.string ⟨#[]⟩):=cellOf hkd rfl
     have hbx6:w6.heap[g]? = some (.cells (drA y5) edT (0,0)):=(hgr.block g (blk_lt' hedd.box) (fun e=>by
      obtain ⟨p,e1,e2⟩:=slice_own e.symm
      exact hedd.off _ (by simp [Dm.as]) p e1 e2)).trans hedd.box
     have q6:w6.cell? ⟨g,13,none⟩=some (.slice y5.closed.A y5.closed.l.length y5.closed.c):=cellOf hbx6 rfl
     have f6:=frz hbx6 13
     have hEnd:EdQ w1.heap.size g y5 w5 { y5 with closed:=⟨A6,c6,y5.closed.l++[keyTm ⟨ky,nmm,6,vl⟩]⟩ } (w6.setCell ⟨g,13,none⟩ (.slice A6 (y5.closed.l.length+1) c6)):=by
      have h1:=EdQ.set_closed (l':=y5.closed.l++[keyTm ⟨ky,nmm,6,vl⟩]) (A':=A6) (c':=c6) hed ((grown_below hd5 _).trans hgr) (by rw [List.length_append,List.length_singleton];exact hown) hA6
      rw [List.length_append,List.length_singleton] at h1
      exact h1
     have HEnd:=Lib.hid (HQ5.out.trans hEnd)
     have hx6:=(((bt2 HB5.out hEnd.b).block _ (blk_lt' HK2.out)).trans HK2.out)
     have HX6:=Lib.hid hx6
     have HB6:=Lib.hid (bt2 HB5.out hEnd.b)
     have HYe:Hid (Dm.d { y5 with closed:=⟨A6,c6,y5.closed.l++[keyTm ⟨ky,nmm,6,vl⟩]⟩ }={ asgS x.d ⟨ky,nmm,6,vl⟩ v with closed:=(asgS x.d ⟨ky,nmm,6,vl⟩ v).closed++[keyTm ⟨ky,nmm,6,vl⟩] }):=Lib.hid (by
      have h1:=HY5.out
      rw [HZ.out] at h1
      rw [←h1];rfl)
     clear hap hedd hkd hEnd hx6 hown hgr hA6 hbx6 hed hcl5
     go_region
     generalize hw7:w6.setCell ⟨g,13,none⟩ (.slice A6 (y5.closed.l.length+1) c6)=w7 at *
     generalize hy7:({ y5 with closed:=⟨A6,c6,y5.closed.l++[keyTm ⟨ky,nmm,6,vl⟩]⟩ }:Dm)=y7 at *
     clear hw7 hy7 q13 q13b k0 k1 k2 k3 q6 f6 hap1
     go_wp2_with (first
      | (refine wpList_load_row rfl 52 _ rfl _ rfl _ _ _ _ HEnd.out.ed.box Tryz.underlying52 rfl (by exact drSize) ?_)
      | (refine wpList_store_row rfl 52 _ _ rfl _ _ rfl rfl _ _ HX6.out (by exact drSize) rfl (by exact drA_one _) ?_))
     refine post_cr1 rfl (by rfl) (setRow_heap _ _ _ _ _ _ HX6.out) Tryz.underlying52 rfl (by exact drSize) (by rfl) ?_
     have hs:=HS1.out
     exact ⟨y7,rfl,by rw [HEq.out,HYe.out],(HEnd.out.ed.rows.row (by omega)).base (by omega),bRow (bt HB1.out HB6.out) (by omega)⟩
   · rw [if_neg h6] at HEq
     have b6:(op == 6)=false:=by simpa using h6
     go_wp2_with (first
      | (refine wpList_load_row rfl 52 _ rfl _ rfl _ _ _ _ HQ5.out.ed.box Tryz.underlying52 rfl (by exact drSize) ?_)
      | (refine wpList_store_row rfl 52 _ _ rfl _ _ rfl rfl _ _ HX5.out (by exact drSize) rfl (by exact drA_one _) ?_))
     refine post_cr1 rfl (by rfl) (setRow_heap _ _ _ _ _ _ HX5.out) Tryz.underlying52 rfl (by exact drSize) (by rfl) ?_
     have hs:=HS1.out
     exact ⟨y5,rfl,by rw [HEq.out,HY5.out,HZ.out],(HQ5.out.ed.rows.row (by omega)).base (by omega),bRow (bt HB1.out HB5.out) (by omega)⟩
end
section
open Go.RowKit
theorem at_cells {w wr:World} {B:Nat} {A:Option Addr} {l:List At} (h:RowAt w B A 2 l.length (cellsOf encAt l)) (hb:Below B w wr) {k:Nat} (hk:k<l.length):∃ ba off,A=some ⟨ba,off,none⟩∧wr.cell? ⟨ba,off+k*2,none⟩=some (.string l[k].name)∧wr.cell? ⟨ba,off+k*2+1,none⟩=some (.string l[k].val):=by
 obtain ⟨ba,off,e,hB,hc⟩:=h.cell (enc:=encAt) (fun _=>rfl) hk
 have hx:l[k]? = some l[k]:=List.getElem?_eq_getElem hk
 refine ⟨ba,off,e,?_,?_⟩
 · rw [hb.cell (p:=⟨ba,off+k*2,none⟩) hB];exact hc k _ hx 0 _ rfl
 · rw [hb.cell (p:=⟨ba,off+k*2+1,none⟩) hB];exact hc k _ hx 1 _ rfl
end
section
open Go.RowKit Go.Maps
attribute [local go_sem ↓] ap_g
end
section
open Go.RowKit
def SomeB0 (w:World) (e:Ending) (w':World):Prop:=∃ b:Bool,e=.returned (.bool b)∧w=w'
def SomeB (w:World) (e:Ending) (w':World):Prop:=∃ b:Bool,e=.returned (.bool b)∧Below w.heap.size w w'
set_option maxHeartbeats 1000000 in
theorem RNode_any (d:Dv) (w:World) (hE:Env0 w) (hs:d.og.size≤1000) :
 Calls Tryz.prog 46 #[dvV d] w fun e w'=>∃ s b,e=.returned (.tuple #[.string s,.bool b])∧s.size≤2000∧Below w.heap.size w w':=by
 have hb:=below_alloc w (.cells (dvA d) devT)
 have HR:=Lib.hid (fun (W:World) (hW:Below w.heap.size w W)=>Repl_one d.og ⟨#[47]⟩ 33 W (hE.go hW) (by omega) (by show 1≤1;omega))
 have HZ:Hid ((bs (Lib.replaceAll (L d.og) [33] [47])).size≤2000):=Lib.hid (by
  rw [size_bs,replaceAll1 _ _ _ (by decide)]
  have:=flat_len2 33 [47] (by decide) (L d.og)
  rw [len_L] at this
  omega)
 have hL:L (⟨#[47]⟩:ByteArray)=[47]:=rfl
 rw [hL] at HR
 have HB:=Lib.hid hb
 clear hb hL hE
 generalize bs (Lib.replaceAll (L d.og) [33] [47])=rs at *
 unfold dvV dvA at *
 by_cases h2:d.kd=2
 · go_enter Tryz.func46,Tryz.ntmps46
   go_wp2_with (go_at_call 55;refine (HR.out _ (below_alloc _ _)).mono ?_;rintro e w2 ⟨rfl,hb2⟩)
   go_ret2
   exact ⟨_,_,rfl,HZ.out,bt (below_alloc _ _) hb2⟩
 · by_cases h3:d.kd=3
   · go_enter Tryz.func46,Tryz.ntmps46
     go_wp2_with (go_at_call 55;refine (HR.out _ (below_alloc _ _)).mono ?_;rintro e w2 ⟨rfl,hb2⟩)
     go_ret2
     exact ⟨_,_,rfl,HZ.out,bt (below_alloc _ _) hb2⟩
   · have b2:(d.kd != 2)=true:=by simpa using h2
     have b3:(d.kd != 3)=true:=by simpa using h3
     go_enter Tryz.func46,Tryz.ntmps46
     go_wp2
     go_ret2
     exact ⟨_,_,rfl,by decide,HB.out⟩
theorem RBeneath_any (a b:ByteArray) (w:World) (ha:a.size≤100000) :
 Calls Tryz.prog 81 #[.string a,.string b] w (SomeB w):=by
 have hsz:(9223372036854775807<a.size+(⟨#[47]⟩:ByteArray).size)=False:=eq_false (by have:(⟨#[47]⟩:ByteArray).size=1:=rfl;omega)
 have HP:=Lib.hid (fun (p:ByteArray) (W:World)=>HasPrefix_any b p W)
 go_enter Tryz.func81,Tryz.ntmps81
 go_wp2_with (go_at_call 102;refine (HP.out _ _).mono ?_;rintro e w2 ⟨rfl,rfl⟩)
 go_ret
 exact ⟨_,rfl,Below.refl _ _⟩
set_option maxHeartbeats 1000000 in
theorem RSorted_any (A:Option Addr) (c:Nat) (l:List At) (w:World) (hl:l.length≤1000) (h:RowAt w w.heap.size A 2 l.length (cellsOf encAt l)) :
 Calls Tryz.prog 79 #[.slice A l.length c] w (SomeB w):=by
 have H:=Lib.hid h
 clear h
 obtain ⟨N,hN⟩:∃ N,l.length=N:=⟨_,rfl⟩
 have HN:=Lib.hid hN
 rw [hN] at hl ⊢
 clear hN
 go_enter Tryz.func79,Tryz.ntmps79
 go_wp2
 go_loopg [3] (N+1) (fun gk s3 wr=>∃ m:Nat,s3=.int .i64 m∧m+gk=N+2∧1≤m∧m≤N+1∧Hid (Below w.heap.size w wr))
 case atStart=>exact ⟨1,rfl,by omega,Nat.le_refl _,by omega,Lib.hid (Below.refl _ _)⟩
 case round =>
  obtain ⟨m,rfl,hmg,hm1,hmN,HB⟩:=hrel
  by_cases hlt:m<N
  · obtain ⟨j,hj⟩:∃ j,m=j+1:=⟨m - 1,by omega⟩
    have hk1:j<l.length:=by rw [HN.out];omega
    have hk2:m<l.length:=by rw [HN.out];omega
    have hrow:=H.out
    obtain ⟨ba,off,rfl,c0,-⟩:=at_cells hrow HB.out hk1
    obtain ⟨ba2,off2,e2,c1,-⟩:=at_cells hrow HB.out hk2
    injection e2 with e2
    injection e2 with e3 e4
    subst e3 e4
    have h1:(m:Int)<(N:Int):=by omega
    have h2:((m:Int) - 1)=(j:Int):=by omega
    have h3:(0:Int)≤(j:Int):=by omega
    have h4:(j:Int)<(N:Int):=by omega
    have h5:(0:Int)≤(m:Int):=by omega
    generalize l[j].name=na at *
    generalize l[m].name=nb at *
    clear hrow hk1 hk2 hj
    go_wp2
    go_quiet (fail)
    go_wp2
    all_goals first
     | (go_ret
        exact ⟨_,rfl,below_drewN HB.out _⟩)
     | (go_roundg (gk - 1)
        case measure=>omega
        case rel=>exact ⟨m+1,by go_num,by omega,by omega,by omega,Lib.hid (below_drewN HB.out _)⟩)
  · go_wp2
    go_ret
    exact ⟨_,rfl,HB.out⟩
set_option maxHeartbeats 1000000 in
theorem RIface_any (s:ByteArray) (w:World) (hs:s.size≤100000):Calls Tryz.prog 78 #[.string s] w (SomeB0 w):=by
 have HV:=Lib.hid (fun (W:World)=>RValid_any s W (by omega))
 have HC:=Lib.hid (fun (c:UInt8) (W:World)=>Tryz.strings_Contains_one s c W)
 generalize validS (L s)=b at *
 go_enter Tryz.func78,Tryz.ntmps78
 go_wp2_with (first
  | (go_at_call 76;refine (HV.out _).mono ?_;rintro e w2 ⟨rfl,rfl⟩)
  | (go_at_call 100;refine (HC.out _ _).mono ?_;rintro e w3 ⟨rfl,rfl⟩))
 all_goals
  go_ret
  exact ⟨_,rfl,rfl⟩
set_option maxHeartbeats 2000000 in
theorem RLink_any (s:ByteArray) (w:World) (hE:Env0 w) (hs:s.size≤100000):Calls Tryz.prog 80 #[.string s] w (SomeB w):=by
 obtain ⟨m,hm⟩:=hE.maxLen
 have HSp:Hid (Calls Tryz.prog 101 #[.string s,.string ⟨#[47]⟩] w fun e w'=>e=.returned (.slice (some ⟨w.heap.size,0,none⟩) (partsC 47 s).length (partsC 47 s).length)∧w.alloc (.cells ((partsC 47 s).map Value.string).toArray 9)=w'):=Lib.hid (by
  have h:=Tryz.strings_Split s ⟨#[47]⟩ m w (by omega) hm (by show 1≤1;omega)
  rw [partsC_len]
  exact h.mono fun e w' h=>⟨h.1,h.2.symm⟩)
 have HI:=Lib.hid (fun (x set:ByteArray) (W:World) (hx:x.size≤100000)=>in_any x set W (by omega))
 have HpL:=partsC_le s 47
 have HpM:=Lib.hid (fun x hx=>Nat.le_trans (partsC_mem s 47 x hx) hs)
 have HR0:=Lib.hid (strRow w (partsC 47 s))
 clear hm hE
 generalize partsC 47 s=ps at *
 have hpl:ps.length≤100001:=by omega
 go_enter Tryz.func80,Tryz.ntmps80
 go_wp2_with (go_at_call 101;refine HSp.out.mono ?_;rintro e w6 ⟨rfl,rfl⟩)
 have HB6:=Lib.hid (below_alloc w (.cells (ps.map Value.string).toArray 9))
 have HS6:=Lib.hid (show (w.alloc (.cells (ps.map Value.string).toArray 9)).heap.size=w.heap.size+1 by simp)
 generalize w.alloc (.cells (ps.map Value.string).toArray 9)=W6 at *
 obtain ⟨N,hN⟩:∃ N,ps.length=N:=⟨_,rfl⟩
 rw [hN] at hpl ⊢
 have HN:=Lib.hid hN
 clear hN HpL
 go_loopg [4] (N+1) (fun gk s4 wr=>∃ k:Nat,s4=.int .i64 k∧k+gk=N+1∧k≤N∧wr=W6)
 case atStart=>exact ⟨0,rfl,by omega,Nat.zero_le _,rfl⟩
 case round =>
  obtain ⟨k,rfl,hkg,hkN,rfl⟩:=hrel
  by_cases hlt:k<N
  · have hlt':k<ps.length:=by rw [HN.out];exact hlt
    have hrow:=HR0.out
    rw [←HS6.out] at hrow
    obtain ⟨ba,off,ea,hc⟩:=str_at (B:=wr.heap.size) hrow (Below.refl _ _) hlt'
    injection ea with ea
    injection ea with ea1 ea2
    subst ea1 ea2
    rw [Nat.zero_add] at hc
    have hxs:=HpM.out ps[k] (List.getElem_mem hlt')
    have hkI:(k:Int)<(N:Int):=by omega
    have HIx:=Lib.hid (fun (set:ByteArray) (W:World)=>HI.out ps[k] set W hxs)
    generalize ps[k]=x at *
    clear hrow hxs hlt'
    go_wp2_with (go_at_call 98;refine (HIx.out _ _).mono ?_;rintro e w3 ⟨rfl,rfl⟩)
    all_goals first
     | (go_ret
        exact ⟨_,rfl,HB6.out⟩)
     | (go_roundg (gk - 1)
        case measure=>omega
        case rel=>exact ⟨k+1,by go_num,by omega,by omega,rfl⟩)
  · go_wp2
    go_ret
    exact ⟨_,rfl,HB6.out⟩
theorem joinX_len (M:Nat):∀ (cs:List Dv),(∀ d∈cs,d.og.size≤M)→∀ x∈orgX cs,x.length≤M:=fun cs h x hx=>by
 unfold orgX at hx
 obtain ⟨d,hd,rfl⟩:=List.mem_map.1 hx
 rw [len_L]
 exact h d (List.mem_reverse.1 hd)
set_option maxHeartbeats 1000000 in
theorem RPlace_any (A:Option Addr) (c:Nat) (ds:List Dv) (n:Int) (w:World) (h:TrN w A ds) (hl:ds.length≤100) (ho:∀ d∈ds,d.og.size≤1000) :
 Calls Tryz.prog 21 #[trV A ds c,.int .i64 n] w fun e w'=>∃ s,e=.returned (.string s)∧s.size≤200000∧Below w.heap.size w w':=by
 obtain ⟨w1,hw1⟩:∃ w1,w.alloc (.cells #[.slice A ds.length c] 30)=w1:=⟨_,rfl⟩
 have hb1:Below w.heap.size w w1:=by rw [←hw1];exact below_alloc _ _
 have hr1:w1.heap[w.heap.size]? = some (.cells #[.slice A ds.length c] 30 (0,0)):=by rw [←hw1];exact heap_alloc_new _ _
 have HC:=Lib.hid (ROrg_any A c ds n w1 (h.keep hb1))
 unfold trV at HC
 have hcl:=chX_len ds ds.length n
 have hcm:=joinX_len 1000 _ (fun d hd=>ho d (chX_mem ds ds.length n d hd))
 have c0:=cellOf (j:=0) hr1 rfl
 have hlW:w.heap.size<w1.heap.size:=blk_lt' hr1
 have h100:(orgX (chX ds ds.length n)).length≤100:=by rw [orgX_len];omega
 unfold ROrP at HC
 generalize orgX (chX ds ds.length n)=os at *
 have HJ:=Lib.hid (fun (base:Nat) (v:Value) (W:World) (hW:W.ownsRow base strT 1 v os.length (cellsOf encS os))=>JoinC_own W base v os 1000 (by omega) (by decide) hcm hW)
 have hjl:=joinC_len 1000 os hcm
 have hjs:(bs (Lib.join os [47])).size≤150000:=by
  rw [size_bs]
  have:os.length*(1000+1)≤100*1001:=Nat.mul_le_mul (by omega) (by decide)
  omega
 generalize bs (Lib.join os [47])=js at *
 have HB1:=Lib.hid hb1
 have HW1:=Lib.hid hw1
 clear hb1 hr1 hw1 h hcl hcm hjl
 unfold trV
 have hsz:(9223372036854775807<(⟨#[47]⟩:ByteArray).size+js.size)=False:=eq_false (by have:(⟨#[47]⟩:ByteArray).size=1:=rfl;omega)
 have HJo:Hid (∀ (base:Nat) (v:Value) (W:World),W.ownsRow base strT 1 v os.length (cellsOf encS os)→Calls Tryz.prog 45 #[v] W fun e w'=>e=.returned (.string ((⟨#[47]⟩:ByteArray)++js))∧Below W.heap.size W w'):=Lib.hid fun base v W hW=>by
  have HJ1:=Lib.hid (HJ.out base v W hW)
  clear HJ HC hW
  go_enter Tryz.func45,Tryz.ntmps45
  go_wp2_with (go_at_call 64;refine HJ1.out.mono ?_;rintro e w2 ⟨rfl,hb2⟩)
  go_ret
  exact ⟨rfl,hb2⟩
 have hfin:((⟨#[47]⟩:ByteArray)++js).size≤200000:=by rw [ByteArray.size_append];have:(⟨#[47]⟩:ByteArray).size=1:=rfl;omega
 generalize (⟨#[47]⟩:ByteArray)++js=js2 at *
 by_cases h0:0<os.length
 · have h0I:(0:Int)<(os.length:Int):=by omega
   go_enter Tryz.func21,Tryz.ntmps21
   go_upto_region 1 with fail
   rw [HW1.out]
   go_wp2_with (first
    | (go_at_call 44;refine HC.out.mono ?_;rintro e w2 ⟨OA,oc,rfl,hown,hb2⟩;have HO2:=Lib.hid hown;have HB2:=Lib.hid hb2;clear hown hb2)
    | (go_at_call 45;refine (HJo.out _ _ _ HO2.out).mono ?_;rintro e w3 ⟨rfl,hb3⟩))
   go_ret
   exact ⟨_,rfl,hfin,bt HB1.out (bt HB2.out hb3)⟩
 · have h0I:¬ (0:Int)<(os.length:Int):=by omega
   go_enter Tryz.func21,Tryz.ntmps21
   go_upto_region 1 with fail
   rw [HW1.out]
   go_wp2_with (go_at_call 44;refine HC.out.mono ?_;rintro e w2 ⟨OA,oc,rfl,hown,hb2⟩;have HB2:=Lib.hid hb2;clear hown hb2)
   go_ret
   exact ⟨_,rfl,by decide,bt HB1.out HB2.out⟩
end
section
open Go.RowKit Go.Shelf
theorem ld_dvG (v:Value):Instr.loadAt 67 v=ldG 67 v:=by unfold ldG;rfl
attribute [local go_sem ↓] ld_dvG
end
section
open Go.RowKit Go.Shelf
abbrev Tq:Type:={ t:Tm // t.value.size≤1000000 }
instance:Inhabited Tq:=⟨⟨⟨0,⟨#[]⟩,0,⟨#[]⟩⟩,by decide⟩⟩
end
section
open Go.RowKit Go.Shelf
end
section
open Go.RowKit Go.Shelf
end
end Go.Proofs.YtobcmlmbblgcdaaGreatDoor

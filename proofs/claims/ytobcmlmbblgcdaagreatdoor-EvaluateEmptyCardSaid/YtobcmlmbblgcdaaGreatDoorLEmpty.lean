/-
  The law EvaluateEmpty, walked. (Printed by gen_lempty.py.)
-/
import Derived.Test.YtobcmlmbblgcdaaGreatDoorWInput
import Derived.Test.YtobcmlmbblgcdaaGreatDoorKnL
import Derived.Test.YtobcmlmbblgcdaaGreatDoorSameA
namespace Go.Proofs.YtobcmlmbblgcdaaGreatDoor
set_option maxRecDepth 100000
open Go.RowKit
abbrev tapeT:TypeId:=25
theorem emptyDr (c:EmC) (d:Dd):(runD c d []).1.dr=beginS (baseS (dsD c.tds) c.ix):=rfl
theorem fin_len {d:Dr} {k:Nat} (h:GdD d k) (x:Dd) (o:ByteArray):(finS d x o).props.length≤1000000∧(finS d x o).tags.length≤1000000∧(finS d x o).links.length≤1000000∧(finS d x o).run.length≤1000000∧(finS d x o).load.length≤1000000:=by
 have h1:=h.pl
 have h2:=h.tl
 have h3:=h.ll
 have h4:=h.rl
 have h5:=h.dl
 unfold finS
 dsimp only
 refine ⟨by omega,by omega,?_,by omega,by omega⟩
 split
 · omega
 · simp
theorem rm_lt {w:World} {r:Rm} (h:RmN w r):∀ a∈r.as,∀ p,a=some p→p.block<w.heap.size:=fun a ha p e=>by
 simp only [Rm.as,List.mem_cons,List.not_mem_nil,or_false] at ha
 rcases ha with rfl | rfl | rfl | rfl | rfl
 · exact (h.pr.row.pl p e).2
 · exact (h.tg.row.pl p e).2
 · exact (h.lk.row.pl p e).2
 · exact (h.rn.row.pl p e).2
 · exact (h.ld.row.pl p e).2
theorem rc_box {w3 X:World} {q:Nat} {r:Rm} (hq:X.heap[q]? = some (.cells #[.string ⟨#[]⟩,.int .i64 0,.slice none 0 0,.slice none 0 0,.slice none 0 0,.slice none 0 0,.slice none 0 0,.string ⟨#[]⟩,.int .i64 0,.string ⟨#[]⟩,.string ⟨#[]⟩,.int .i64 0] recT (0,0))) (hr:RmN X r) (ha:∀ a∈r.as,∀ p,a=some p→p.block≠q) (hb:Below w3.heap.size w3 X) (hl:w3.heap.size≤q):(X.setRow q (rcA r)).heap[q]? = some (.cells (rcA r) recT (0,0))∧RmN (X.setRow q (rcA r)) r∧Below w3.heap.size w3 (X.setRow q (rcA r)) :=
 ⟨setRow_heap _ _ _ _ _ _ hq,hr.grown (grown_setRow X q _) ha,bRow hb hl⟩
def rcOf (d:Dr) (o:Option Dd) (g:ByteArray):Rc:=match o with
 | some x=>finS d x g
 | none=>rmZ.d
def RcP (bb:Bool) (D:Rc) (w:World) (e:Ending) (w':World):Prop:=∃ r:Rm,e=.returned (.tuple #[.agg (rcA r),.bool bb])∧(bb=true→r.d=D)∧RmN w' r∧(∀ a∈r.as,∀ p,a=some p→w.heap.size≤p.block)∧Below w.heap.size w w'
theorem fin_rc {w w':World} {o:Option Dd} {d:Dr} {g:ByteArray} {e:Ending} (h:FinP w o d g e w'):RcP o.isSome (rcOf d o g) w e w':=by
 unfold FinP at h
 cases o with
 | none=>exact ⟨rmZ,h.1,(fun e=>by cases e),⟨LsN.empty,LsN.empty,LsN.empty,LsN.empty,LsN.empty⟩,(fun a ha p e=>by simp [Rm.as] at ha;rcases ha with rfl;cases e),h.2⟩
 | some x =>
   obtain ⟨r,h1,h2,h3,h4,h5⟩:=h
   exact ⟨r,h1,fun _=>h2,h3,h4,h5⟩
def RuP (bb:Bool) (D:Rc) (w:World) (e:Ending) (w':World):Prop:=∃ (r:Rm) (eN:Int),e=.returned (.tuple #[.agg (rcA r),.int .i64 0,.int .i64 eN])∧(bb=true→eN=0)∧(bb=false→eN=150)∧(bb=true→r.d=D)∧RmN w' r∧Below w.heap.size w w'
theorem rules_rc {c:EmC} {w w':World} {e:Ending} (h:RulesQ c [] w e w'):RuP (findD (dsD c.tds) c.ix).isSome (rcOf (beginS (baseS (dsD c.tds) c.ix)) (findD (dsD c.tds) c.ix) (orgB (dsD c.tds) c.ix)) w e w':=by
 unfold RulesQ at h
 cases hf:findD (dsD c.tds) c.ix with
 | none =>
   rw [hf] at h
   exact ⟨rmZ,150,h.1,(fun e=>by cases e),(fun _=>rfl),(fun e=>by cases e),⟨LsN.empty,LsN.empty,LsN.empty,LsN.empty,LsN.empty⟩,h.2⟩
 | some x =>
   rw [hf] at h
   dsimp only at h
   rw [emptyDr] at h
   obtain ⟨r,h1,h2,h3,_,h5⟩:=h
   exact ⟨r,0,h1.trans rfl,(fun _=>rfl),(fun e=>by cases e),fun _=>h2,h3,h5⟩
attribute [local go_sem ↓] ld_rec st_rec
set_option maxHeartbeats 8000000 in
theorem lawEmpty (TA:Option Addr) (n tc:Nat) (w:World) (hE:EnvE w) (hI:IntsIn w TA n) :
 Calls Tryz.prog 4 #[.slice TA n tc] w fun e w'=>e=.returned (.bool true)∧Below w.heap.size w w':=by
 obtain ⟨w1,hw1⟩:∃ w1,w.alloc (.cells #[.slice TA n tc,.int .i64 0] tapeT)=w1:=⟨_,rfl⟩
 have hb1:Below w.heap.size w w1:=by rw [←hw1];exact below_alloc _ _
 have hnG:=hE.toEnv.toEnv0.size
 have hts:TSt w1 w.heap.size n 0 0 w1:=by rw [←hw1];exact TSt.start (hI.tape tc tapeT)
 have HIn:=Lib.hid (Input_any hts (hE.toEnv.toEnv0.go hb1) hnG 6 (by omega) (by omega))
 have HE:=Lib.hid hE
 have HW1:=Lib.hid hw1
 have HB1:=Lib.hid hb1
 clear hE hI hts hw1
 go_enter Tryz.func4,Tryz.ntmps4
 go_upto_region 2 with fail
 rw [HW1.out]
 go_cut [4] from 13 to 14 (fun s4 wx=>∃ (t4:Nat) (c:EmC),s4=.pointer (some ⟨t4,0,none⟩)∧Hid (wx.heap[t4]? = some (.cells #[.string c.act,.slice c.tA c.tds.length c.tc,.int .i64 c.ix,.string c.r.path,.int .i64 c.r.ix,.slice c.r.props.A c.r.props.l.length c.r.props.c,.slice c.r.tags.A c.r.tags.l.length c.r.tags.c,.slice c.r.links.A c.r.links.l.length c.r.links.c,.slice c.r.run.A c.r.run.l.length c.r.run.c,.slice c.r.load.A c.r.load.l.length c.r.load.c,.string c.r.nam,.int .i64 c.r.prio,.string c.r.own,.string c.r.grp,.int .i64 c.r.mode,.slice c.hs.A c.hs.l.length c.hs.c,.int .i64 c.lim] inpT (0,0)))∧Hid (InM wx c)∧Hid (InW c)∧Hid (Below w.heap.size w wx))
 case first =>
  as_aux_lemma =>
  go_wp2_with fail
  refine HIn.out.mono ?_
  rintro e w2 ⟨c,rfl,hM,hW,_,hT⟩
  have HK:=Lib.hid (heap_alloc_new w2 (.cells #[.string c.act,.slice c.tA c.tds.length c.tc,.int .i64 c.ix,.string c.r.path,.int .i64 c.r.ix,.slice c.r.props.A c.r.props.l.length c.r.props.c,.slice c.r.tags.A c.r.tags.l.length c.r.tags.c,.slice c.r.links.A c.r.links.l.length c.r.links.c,.slice c.r.run.A c.r.run.l.length c.r.run.c,.slice c.r.load.A c.r.load.l.length c.r.load.c,.string c.r.nam,.int .i64 c.r.prio,.string c.r.own,.string c.r.grp,.int .i64 c.r.mode,.slice c.hs.A c.hs.l.length c.hs.c,.int .i64 c.lim] inpT))
  have HM:=Lib.hid (hM.keep (below_alloc w2 (.cells #[.string c.act,.slice c.tA c.tds.length c.tc,.int .i64 c.ix,.string c.r.path,.int .i64 c.r.ix,.slice c.r.props.A c.r.props.l.length c.r.props.c,.slice c.r.tags.A c.r.tags.l.length c.r.tags.c,.slice c.r.links.A c.r.links.l.length c.r.links.c,.slice c.r.run.A c.r.run.l.length c.r.run.c,.slice c.r.load.A c.r.load.l.length c.r.load.c,.string c.r.nam,.int .i64 c.r.prio,.string c.r.own,.string c.r.grp,.int .i64 c.r.mode,.slice c.hs.A c.hs.l.length c.hs.c,.int .i64 c.lim] inpT)))
  have HWc:=Lib.hid hW
  have HB:=Lib.hid (bAl (hb1.grown hT.gr hb1.size (fun j e=>by cases e;exact Nat.le_refl _)):Below w.heap.size w (w2.alloc (.cells #[.string c.act,.slice c.tA c.tds.length c.tc,.int .i64 c.ix,.string c.r.path,.int .i64 c.r.ix,.slice c.r.props.A c.r.props.l.length c.r.props.c,.slice c.r.tags.A c.r.tags.l.length c.r.tags.c,.slice c.r.links.A c.r.links.l.length c.r.links.c,.slice c.r.run.A c.r.run.l.length c.r.run.c,.slice c.r.load.A c.r.load.l.length c.r.load.c,.string c.r.nam,.int .i64 c.r.prio,.string c.r.own,.string c.r.grp,.int .i64 c.r.mode,.slice c.hs.A c.hs.l.length c.hs.c,.int .i64 c.lim] inpT)))
  clear hM hW hT
  unfold inA
  go_wp2
  go_meet
  exact ⟨_,c,rfl,HK,HM,HWc,HB⟩
 case rest =>
 obtain ⟨t4,c,rfl,HK2,HM2,HW2,HB2⟩:=hcut
 generalize wc=w2 at *
 have hz:=HW2.out.z
 have HZ:=Lib.hid hz
 have HRu0:=ERules_any none 0 [] c w2 HM2.out hz (HE.out.go HB2.out) ⟨RowN.nil,(fun y hy=>by cases hy),(fun y hy=>by cases hy)⟩ ⟨by show 0≤40;omega,(fun y hy=>by cases hy)⟩ (fun y hy=>by cases hy)
 have HRu:=Lib.hid (Calls.mono HRu0 fun _ _ h=>rules_rc h)
 clear HRu0 hz HIn
 have HGd:=Lib.hid (begin_good HZ.out)
 have HFin:Hid (∀ (x:Dm) (W:World),Below w2.heap.size w2 W→DmN W x→x.d=beginS (baseS (dsD c.tds) c.ix)→Calls Tryz.prog 9 #[.agg (drA x),.agg #[.slice c.tA c.tds.length c.tc],.int .i64 c.ix] W (RcP (findD (dsD c.tds) c.ix).isSome (rcOf (beginS (baseS (dsD c.tds) c.ix)) (findD (dsD c.tds) c.ix) (orgB (dsD c.tds) c.ix)) W)):=Lib.hid fun x W hW hN hx=>by
  have h:=Finish_any x c.tA c.tc c.tds c.ix 0 W hN (by rw [hx];exact HGd.out) (Nat.zero_le _) (HM2.out.tr.keep hW) (fun d hd=>(HZ.out.dv d hd).1) HZ.out.ix1 HZ.out.ix2 (HE.out.go (bt HB2.out hW)).toEnv.toEnv0
  rw [hx] at h
  exact h.mono fun _ _ h=>fin_rc h
 have HBs:Hid (∀ W:World,Below w2.heap.size w2 W→Calls Tryz.prog 11 #[.agg #[.slice c.tA c.tds.length c.tc],.int .i64 c.ix] W (OutL W (baseS (dsD c.tds) c.ix))):=Lib.hid fun W hW=>Base_any c.tA c.tc c.tds c.ix W (HM2.out.tr.keep hW) (fun d hd=>(HZ.out.dv d hd).1) HZ.out.ix1 HZ.out.ix2 (HE.out.go (bt HB2.out hW)).toEnv.toEnv0 (fun d hd=>⟨(HZ.out.dv d hd).2.2.2.1,(HZ.out.dv d hd).2.2.2.2.1⟩)
 have hDl:∀ r:Rm,(findD (dsD c.tds) c.ix).isSome=true→r.d=(rcOf (beginS (baseS (dsD c.tds) c.ix)) (findD (dsD c.tds) c.ix) (orgB (dsD c.tds) c.ix))→r.props.l.length≤1000000∧r.tags.l.length≤1000000∧r.links.l.length≤1000000∧r.run.l.length≤1000000∧r.load.l.length≤1000000:=fun r hb hr=>by
  cases hf:findD (dsD c.tds) c.ix with
  | none=>rw [hf] at hb;cases hb
  | some y =>
    rw [hf] at hr
    unfold rcOf at hr
    have h:=fin_len HGd.out y (orgB (dsD c.tds) c.ix)
    dsimp only at hr
    rw [←hr] at h
    exact h
 have HBl:Hid ((baseS (dsD c.tds) c.ix).length≤1000):=Lib.hid (Nat.le_trans HGd.out.pl (by decide))
 generalize (rcOf (beginS (baseS (dsD c.tds) c.ix)) (findD (dsD c.tds) c.ix) (orgB (dsD c.tds) c.ix))=D at *
 generalize (findD (dsD c.tds) c.ix).isSome=bb at *
 generalize hbs:baseS (dsD c.tds) c.ix=bs0 at *
 have HDl:=Lib.hid hDl
 clear hDl hbs HGd HZ
 have HRl:Hid (Calls Tryz.prog 7 #[.slice none 0 0,.agg #[.string c.act,.slice c.tA c.tds.length c.tc,.int .i64 c.ix,.string c.r.path,.int .i64 c.r.ix,.slice c.r.props.A c.r.props.l.length c.r.props.c,.slice c.r.tags.A c.r.tags.l.length c.r.tags.c,.slice c.r.links.A c.r.links.l.length c.r.links.c,.slice c.r.run.A c.r.run.l.length c.r.run.c,.slice c.r.load.A c.r.load.l.length c.r.load.c,.string c.r.nam,.int .i64 c.r.prio,.string c.r.own,.string c.r.grp,.int .i64 c.r.mode,.slice c.hs.A c.hs.l.length c.hs.c,.int .i64 c.lim]] w2 (RuP bb D w2)):=HRu
 clear HRu
 have HK:=Lib.hid (fun (W:World) (hW:Below w.heap.size w W)=>known_any W (HE.out.go hW))
 go_upto_region 3 with fail
 go_cut [5,6,7] from 16 to 20 (fun s5 s6 s7 wx=>∃ (t5:Nat) (r:Rm) (eN:Int),s5=.pointer (some ⟨t5,0,none⟩)∧s6=.int .i64 0∧s7=.int .i64 eN∧Hid ((bb=true→eN=0)∧(bb=false→eN=150))∧Hid (wx.heap[t5]? = some (.cells (rcA r) recT (0,0)))∧Hid (bb=true→r.d=D)∧Hid (RmN wx r)∧Hid (Below w2.heap.size w2 wx))
 case first =>
  as_aux_lemma =>
  have x0:w2.cell? ⟨t4,0,none⟩=some (.string c.act):=cellOf HK2.out rfl
  have x1:w2.cell? ⟨t4,1,none⟩=some (.slice c.tA c.tds.length c.tc):=cellOf HK2.out rfl
  have x2:w2.cell? ⟨t4,2,none⟩=some (.int .i64 c.ix):=cellOf HK2.out rfl
  have x3:w2.cell? ⟨t4,3,none⟩=some (.string c.r.path):=cellOf HK2.out rfl
  have x4:w2.cell? ⟨t4,4,none⟩=some (.int .i64 c.r.ix):=cellOf HK2.out rfl
  have x5:w2.cell? ⟨t4,5,none⟩=some (.slice c.r.props.A c.r.props.l.length c.r.props.c):=cellOf HK2.out rfl
  have x6:w2.cell? ⟨t4,6,none⟩=some (.slice c.r.tags.A c.r.tags.l.length c.r.tags.c):=cellOf HK2.out rfl
  have x7:w2.cell? ⟨t4,7,none⟩=some (.slice c.r.links.A c.r.links.l.length c.r.links.c):=cellOf HK2.out rfl
  have x8:w2.cell? ⟨t4,8,none⟩=some (.slice c.r.run.A c.r.run.l.length c.r.run.c):=cellOf HK2.out rfl
  have x9:w2.cell? ⟨t4,9,none⟩=some (.slice c.r.load.A c.r.load.l.length c.r.load.c):=cellOf HK2.out rfl
  have x10:w2.cell? ⟨t4,10,none⟩=some (.string c.r.nam):=cellOf HK2.out rfl
  have x11:w2.cell? ⟨t4,11,none⟩=some (.int .i64 c.r.prio):=cellOf HK2.out rfl
  have x12:w2.cell? ⟨t4,12,none⟩=some (.string c.r.own):=cellOf HK2.out rfl
  have x13:w2.cell? ⟨t4,13,none⟩=some (.string c.r.grp):=cellOf HK2.out rfl
  have x14:w2.cell? ⟨t4,14,none⟩=some (.int .i64 c.r.mode):=cellOf HK2.out rfl
  have x15:w2.cell? ⟨t4,15,none⟩=some (.slice c.hs.A c.hs.l.length c.hs.c):=cellOf HK2.out rfl
  have x16:w2.cell? ⟨t4,16,none⟩=some (.int .i64 c.lim):=cellOf HK2.out rfl
  go_wp2_with (go_at_call 7;refine HRl.out.mono ?_;rintro e w3 ⟨r,eN,rfl,he1,he2,hr,hN3,hb3⟩;have HEn:=Lib.hid (And.intro he1 he2);have hst:=stRec_at (heap_alloc_new w3 (.cells #[.string ⟨#[]⟩,.int .i64 0,.slice none 0 0,.slice none 0 0,.slice none 0 0,.slice none 0 0,.slice none 0 0,.string ⟨#[]⟩,.int .i64 0,.string ⟨#[]⟩,.string ⟨#[]⟩,.int .i64 0] recT)) rfl r;have HR:=Lib.hid hr;have HN:=Lib.hid hN3;have HB:=Lib.hid hb3;clear hr hN3 hb3 he1 he2)
  have hbx:=rc_box (w3:=w2) (r:=r) (heap_alloc_new w3 (.cells #[.string ⟨#[]⟩,.int .i64 0,.slice none 0 0,.slice none 0 0,.slice none 0 0,.slice none 0 0,.slice none 0 0,.string ⟨#[]⟩,.int .i64 0,.string ⟨#[]⟩,.string ⟨#[]⟩,.int .i64 0] recT)) (HN.out.keep (below_alloc _ _)) (fun a ha p e=>by have:=rm_lt HN.out a ha p e;omega) (bAl HB.out) HB.out.size
  go_meet
  exact ⟨_,r,eN,rfl,rfl,rfl,HEn,Lib.hid hbx.1,HR,Lib.hid hbx.2.1,Lib.hid hbx.2.2⟩
 case rest =>
 obtain ⟨t5,r,eN,rfl,rfl,rfl,HEn,HT5,HD5,HN5,HB5⟩:=hcut
 clear HRl
 generalize wc=w3 at *
 have HB3:=Lib.hid (bt HB2.out HB5.out)
 have HLd:Hid (∀ W:World,Below w2.heap.size w2 W→W.cell? ⟨t4,1,none⟩=some (.slice c.tA c.tds.length c.tc)∧W.cell? ⟨t4,2,none⟩=some (.int .i64 c.ix)):=Lib.hid fun W hW=>⟨cellOf ((hW.block _ (blk_lt' HK2.out)).trans HK2.out) rfl,cellOf ((hW.block _ (blk_lt' HK2.out)).trans HK2.out) rfl⟩
 have hl42:t4<w2.heap.size:=blk_lt' HK2.out
 have hl43:t4<w3.heap.size:=Nat.lt_of_lt_of_le hl42 HB5.out.size
 go_upto_region 4 with fail
 go_cut [8,9] from 22 to 34 (fun s8 s9 wx=>∃ (t8:Nat) (r2:Rm),s8=.pointer (some ⟨t8,0,none⟩)∧s9=.bool bb∧Hid (wx.heap[t8]? = some (.cells (rcA r2) recT (0,0)))∧Hid (bb=true→r2.d=D)∧Hid (RmN wx r2)∧Hid (Below w3.heap.size w3 wx))
 case first =>
  as_aux_lemma =>
  have HSw:Hid (∀ (X:World) (q:Nat) (r2:Rm),Below w3.heap.size w3 X→w3.heap.size≤q→(X.setRow q (rcA r2)).cell? ⟨t4,1,none⟩=some (.slice c.tA c.tds.length c.tc)∧(X.setRow q (rcA r2)).cell? ⟨t4,2,none⟩=some (.int .i64 c.ix)):=Lib.hid fun X q r2 hX hq=>HLd.out _ (bt HB5.out (bRow hX hq))
  go_region_held3 (fun W'=>W'.cell? ⟨t4,1,none⟩=some (.slice c.tA c.tds.length c.tc)∧W'.cell? ⟨t4,2,none⟩=some (.int .i64 c.ix)) (first | exact HLd.out _ (bt HB5.out (by first | exact bDr (Below.refl _ _) | exact bAl (bDr (Below.refl _ _)) | exact HBp.out | exact bAl HBp.out | exact HBq.out | exact bAl HBq.out | exact HBr.out | exact bAl HBr.out)) | exact HSx.out) ((first
   | (go_at_call 11
      first
      | (refine (HBs.out _ (bt HB5.out (bDr (Below.refl _ _)))).mono ?_
         rintro e wp ⟨PA,pc,rfl,hL,hbp⟩
         have HBp:=Lib.hid (bt (bDr (Below.refl w3.heap.size w3)) hbp)
         have HL:=Lib.hid hL
         clear hL hbp)
      | (refine (HBs.out _ (bt HB5.out (bAl (bDr (Below.refl _ _))))).mono ?_
         rintro e wp ⟨PA,pc,rfl,hL,hbp⟩
         have HBp:=Lib.hid (bt (bAl (bDr (Below.refl w3.heap.size w3))) hbp)
         have HQ1:=Lib.hid ((hbp.block _ (by simp)).trans (heap_alloc_new w3.drew (.cells #[.string ⟨#[]⟩,.int .i64 0,.slice none 0 0,.slice none 0 0,.slice none 0 0,.slice none 0 0,.slice none 0 0,.string ⟨#[]⟩,.int .i64 0,.string ⟨#[]⟩,.string ⟨#[]⟩,.int .i64 0] recT)))
         have HL:=Lib.hid hL
         clear hL hbp))
   | (go_at_call 10
      first
      | (refine (Begin_any ⟨PA,pc,bs0⟩ wp HL.out HBl.out).mono ?_
         rintro e wq ⟨x,rfl,hxd,hxo,hbq⟩
         have HBq:=Lib.hid (bt HBp.out hbq)
         have HX:=Lib.hid hxd
         have HN:=Lib.hid (DmO.n hxo)
         first
          | (have HQ2:=Lib.hid ((hbq.block _ (blk_lt' HQ1.out)).trans HQ1.out))
          | skip
         clear hxd hxo hbq)
      | (refine (Begin_any ⟨PA,pc,bs0⟩ _ (HL.out.keep (below_alloc _ _)) HBl.out).mono ?_
         rintro e wq ⟨x,rfl,hxd,hxo,hbq⟩
         have HBq:=Lib.hid (bt (bAl HBp.out) hbq)
         have HX:=Lib.hid hxd
         have HN:=Lib.hid (DmO.n hxo)
         have HQ3:=Lib.hid ((hbq.block _ (by simp)).trans (heap_alloc_new wp (.cells #[.string ⟨#[]⟩,.int .i64 0,.slice none 0 0,.slice none 0 0,.slice none 0 0,.slice none 0 0,.slice none 0 0,.string ⟨#[]⟩,.int .i64 0,.string ⟨#[]⟩,.string ⟨#[]⟩,.int .i64 0] recT)))
         clear hxd hxo hbq))
   | (go_at_call 9
      first
      | (refine (HFin.out x _ (bt HB5.out HBq.out) HN.out HX.out).mono ?_
         rintro e wr ⟨r2,rfl,hrd,hrn,hro,hbr⟩
         have HBr:=Lib.hid (bt HBq.out hbr)
         have HRd:=Lib.hid hrd
         have HRn:=Lib.hid hrn
         have HRo:Hid (∀ a∈r2.as,∀ p,a=some p→wq.heap.size≤p.block):=Lib.hid hro
         first
          | (have HQ4:=Lib.hid ((hbr.block _ (blk_lt' HQ2.out)).trans HQ2.out)
             have hst:(stG recT (.pointer (some ⟨w3.heap.size,0,none⟩)) (.agg (rcA r2))).run Tryz.prog wr=.ok () (wr.setRow w3.heap.size (rcA r2)):=stRec_at HQ4.out rfl r2
             have HSx:=Lib.hid (HSw.out wr w3.heap.size r2 HBr.out (Nat.le_refl _))
             have hbx:=rc_box (w3:=w3) (r:=r2) HQ4.out hrn (fun a ha p e=>by have h1:=hro a ha p e;have h2:=blk_lt' HQ2.out;intro h3;rw [h3] at h1;exact absurd h2 (Nat.not_lt.2 h1)) HBr.out (Nat.le_refl _))
          | (have HQ4:=Lib.hid ((hbr.block _ (blk_lt' HQ3.out)).trans HQ3.out)
             have hst:=stRec_at HQ4.out rfl r2
             have HSx:=Lib.hid (HSw.out wr wp.heap.size r2 HBr.out HBp.out.size)
             have hbx:=rc_box (w3:=w3) (r:=r2) HQ4.out hrn (fun a ha p e=>by have h1:=hro a ha p e;have h2:=blk_lt' HQ3.out;omega) HBr.out HBp.out.size)
          | (have hst:=stRec_at (heap_alloc_new wr (.cells #[.string ⟨#[]⟩,.int .i64 0,.slice none 0 0,.slice none 0 0,.slice none 0 0,.slice none 0 0,.slice none 0 0,.string ⟨#[]⟩,.int .i64 0,.string ⟨#[]⟩,.string ⟨#[]⟩,.int .i64 0] recT)) rfl r2
             have HSx:=Lib.hid (HSw.out (wr.alloc (.cells #[.string ⟨#[]⟩,.int .i64 0,.slice none 0 0,.slice none 0 0,.slice none 0 0,.slice none 0 0,.slice none 0 0,.string ⟨#[]⟩,.int .i64 0,.string ⟨#[]⟩,.string ⟨#[]⟩,.int .i64 0] recT)) wr.heap.size r2 (bAl HBr.out) HBr.out.size)
             have hbx:=rc_box (w3:=w3) (r:=r2) (heap_alloc_new wr (.cells #[.string ⟨#[]⟩,.int .i64 0,.slice none 0 0,.slice none 0 0,.slice none 0 0,.slice none 0 0,.slice none 0 0,.string ⟨#[]⟩,.int .i64 0,.string ⟨#[]⟩,.string ⟨#[]⟩,.int .i64 0] recT)) (hrn.keep (below_alloc _ _)) (fun a ha p e=>by have:=rm_lt hrn a ha p e;omega) (bAl HBr.out) HBr.out.size)
         clear hrd hrn hro hbr)
      | (refine (HFin.out x _ (bt HB5.out (bAl HBq.out)) (HN.out.keep (below_alloc _ _)) HX.out).mono ?_
         rintro e wr ⟨r2,rfl,hrd,hrn,hro,hbr⟩
         have HBr:=Lib.hid (bt (bAl HBq.out) hbr)
         have HRd:=Lib.hid hrd
         have HQ4:=Lib.hid ((hbr.block _ (by simp)).trans (heap_alloc_new wq (.cells #[.string ⟨#[]⟩,.int .i64 0,.slice none 0 0,.slice none 0 0,.slice none 0 0,.slice none 0 0,.slice none 0 0,.string ⟨#[]⟩,.int .i64 0,.string ⟨#[]⟩,.string ⟨#[]⟩,.int .i64 0] recT)))
         have hst:=stRec_at HQ4.out rfl r2
         have HSx:=Lib.hid (HSw.out wr wq.heap.size r2 HBr.out HBq.out.size)
         have hbx:=rc_box (w3:=w3) (r:=r2) HQ4.out hrn (fun a ha p e=>by have h1:=hro a ha p e;rw [World.size_alloc] at h1;omega) HBr.out HBq.out.size
         clear hrd hrn hro hbr))))
  all_goals
   have HF1:=Lib.hid hbx.1
   have HF2:=Lib.hid hbx.2.1
   have HF3:=Lib.hid hbx.2.2
   clear hbx
   go_wp2
   go_meet
   exact ⟨_,r2,rfl,rfl,HF1,HRd,HF2,HF3⟩
 case rest =>
 obtain ⟨t8,r2,rfl,rfl,HT8,HD8,HN8,HB8⟩:=hcut
 have HT5b:=Lib.hid ((HB8.out.block _ (blk_lt' HT5.out)).trans HT5.out)
 have HN5b:=Lib.hid (HN5.out.keep HB8.out)
 have HB:=Lib.hid (bt HB3.out HB8.out)
 clear HBs HFin HLd
 generalize wc=w4 at *
 have l5:=ldRec_at HT5b.out
 have l8:=ldRec_at HT8.out
 cases bb with
 | false =>
   as_aux_lemma =>
   obtain rfl:=HEn.out.2 rfl
   go_wp2_with (go_at_call 8;refine (HK.out _ HB.out).mono ?_;rintro e w5 ⟨rfl,hb5⟩;have HB9:=Lib.hid hb5;clear hb5)
   go_ret
   exact ⟨rfl,bt HB.out HB9.out⟩
 | true =>
   as_aux_lemma =>
   obtain rfl:=HEn.out.1 rfl
   have HSm:Hid (Calls Tryz.prog 12 #[.agg (rcA r),.agg (rcA r2)] w4 fun e w'=>e=.returned (.bool true)∧Below w4.heap.size w4 w'):=Lib.hid (by
    obtain ⟨z1,z2,z3,z4,z5⟩:=HDl.out r rfl (HD5.out rfl)
    exact SameRecord_yes r r2 ((HD5.out rfl).trans (HD8.out rfl).symm) w4 HN5b.out HN8.out z1 z2 z3 z4 z5)
   go_wp2_with (first
    | (go_at_call 12;refine HSm.out.mono ?_;rintro e w5 ⟨rfl,hb5⟩;have HB9:=Lib.hid hb5;clear hb5)
    | (go_at_call 8;refine (HK.out _ (bt HB.out HB9.out)).mono ?_;rintro e w6 ⟨rfl,hb6⟩;have HBa:=Lib.hid hb6;clear hb6))
   go_ret
   exact ⟨rfl,bt HB.out (bt HB9.out HBa.out)⟩
end Go.Proofs.YtobcmlmbblgcdaaGreatDoor

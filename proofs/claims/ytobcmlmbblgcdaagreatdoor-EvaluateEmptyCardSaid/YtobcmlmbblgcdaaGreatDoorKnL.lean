/-
  The law's sanity check: the chapter's example is as it should be. (Printed by gen_knl.py.)
-/
import Derived.Test.YtobcmlmbblgcdaaGreatDoorG44
import Derived.Test.YtobcmlmbblgcdaaGreatDoorG05
namespace Go.Proofs.YtobcmlmbblgcdaaGreatDoor
set_option maxRecDepth 100000
open Go.RowKit
abbrev xB:ByteArray:=⟨#[120]⟩
theorem exRun (s:ByteArray) (td th g1 g2 g3 g4:Nat):runD (exM s td th) (exD s) (exR g1 g2 g3 g4)=runE (exC s) exL 5 0 (evS (exC s)) []:=rfl
theorem exFind (s:ByteArray) (td th:Nat):findD (dsD (exM s td th).tds) (exM s td th).ix=some (exD s):=rfl
def ExRc (s:ByteArray) (x:Ev × List Int) (w:World) (e:Ending) (w':World):Prop:=∃ r:Rm,e=.returned (.tuple #[.agg #[.string r.path,.int .i64 r.ix,.slice r.props.A r.props.l.length r.props.c,.slice r.tags.A r.tags.l.length r.tags.c,.slice r.links.A r.links.l.length r.links.c,.slice r.run.A r.run.l.length r.run.c,.slice r.load.A r.load.l.length r.load.c,.string r.nam,.int .i64 r.prio,.string r.own,.string r.grp,.int .i64 r.mode],.int .i64 x.1.dr.ticks,.int .i64 0])∧r.d=finS x.1.dr (exD s) (orgB [exD s] 1)∧RmN w' r∧(∀ a∈r.as,∀ p,a=some p→w.heap.size≤p.block)∧Below w.heap.size w w'
theorem exRules {s:ByteArray} (hs:s.size≤100) {w:World} {g1 g2 g3 g4 g5 td th:Nat} (hE:EnvE w) (hR:RuE w (some ⟨g5,0,none⟩) (exR g1 g2 g3 g4)) (hM:InM w (exM s td th)) :
 Calls Tryz.prog 7 #[.slice (some ⟨g5,0,none⟩) 4 4,.agg #[.string ⟨#[97,100,100]⟩,.slice (some ⟨td,0,none⟩) 1 1,.int .i64 1,.string ⟨#[]⟩,.int .i64 0,.slice none 0 0,.slice none 0 0,.slice none 0 0,.slice none 0 0,.slice none 0 0,.string ⟨#[]⟩,.int .i64 0,.string ⟨#[]⟩,.string ⟨#[]⟩,.int .i64 0,.slice (some ⟨th,0,none⟩) 1 1,.int .i64 9]] w (ExRc s (runE (exC s) exL 5 0 (evS (exC s)) []) w):=by
 have h:=ERules_any (some ⟨g5,0,none⟩) 4 (exR g1 g2 g3 g4) (exM s td th) w hM (exM_z s hs td th) hE hR (exR_z g1 g2 g3 g4) (fun y hy t ht=>exR_k g1 g2 g3 g4 y hy t ht)
 unfold RulesQ at h
 rw [exFind] at h
 dsimp only at h
 rw [exRun] at h
 refine Calls.mono h ?_
 rintro e w' ⟨r,rfl,h1,h2,h4,h3⟩
 exact ⟨r,rfl,h1,h2,h4,h3⟩
theorem exHeld {s:ByteArray} (hs:s.size≤100) {w:World} {g1 g2 g3 g4 g5 td th:Nat} (hE:EnvE w) (hR:RuE w (some ⟨g5,0,none⟩) (exR g1 g2 g3 g4)) (hM:InM w (exM s td th)) :
 Calls Tryz.prog 26 #[.slice (some ⟨g5,0,none⟩) 4 4,.agg #[.string ⟨#[97,100,100]⟩,.slice (some ⟨td,0,none⟩) 1 1,.int .i64 1,.string ⟨#[]⟩,.int .i64 0,.slice none 0 0,.slice none 0 0,.slice none 0 0,.slice none 0 0,.slice none 0 0,.string ⟨#[]⟩,.int .i64 0,.string ⟨#[]⟩,.string ⟨#[]⟩,.int .i64 0,.slice (some ⟨th,0,none⟩) 1 1,.int .i64 9]] w fun e w'=>∃ HA hc,e=.returned (.tuple #[.slice HA (runE (exC s) exL 5 0 (evS (exC s)) []).2.length hc,.int .i64 0])∧RowN w' HA 1 (runE (exC s) exL 5 0 (evS (exC s)) []).2.length (cellsOf encI (runE (exC s) exL 5 0 (evS (exC s)) []).2)∧Below w.heap.size w w':=by
 have h:=EHeld_any (some ⟨g5,0,none⟩) 4 (exR g1 g2 g3 g4) (exM s td th) w hM (exM_z s hs td th) hE hR (exR_z g1 g2 g3 g4) (fun y hy t ht=>exR_k g1 g2 g3 g4 y hy t ht)
 unfold HeldQ at h
 rw [exFind] at h
 dsimp only at h
 rw [exRun] at h
 exact h
theorem exA_rc {r:Rm} {o:ByteArray} (h:r.d=finS z4A.dr (exD sdaB) o):r.links.l.length=0∧r.tags.l.length=1∧(∃ y,findF r.props.l [73,68]=some y∧y.val=xB)∧r.props.l.length=5:=by
 have hn:(nodeB (exD sdaB)).isSome=true:=rfl
 have h1:=congrArg Rc.links h
 have h2:=congrArg Rc.tags h
 have h3:=congrArg Rc.props h
 unfold finS at h1 h2 h3
 rw [hn] at h1
 dsimp only [if_true] at h1 h2 h3
 refine ⟨?_,?_,?_,?_⟩
 · show r.d.links.length=0
   rw [h1];exact exA_links
 · show r.d.tags.length=1
   rw [h2];exact exA_tags
 · show ∃ y,findF r.d.props [73,68]=some y∧y.val=xB
   rw [h3]
   have:=exA_id
   cases hf:findF z4A.dr.props [73,68] with
   | none=>rw [hf] at this;cases this
   | some y=>rw [hf] at this;exact ⟨y,rfl,Option.some.inj this⟩
 · show r.d.props.length=5
   rw [h3];exact exA_props
theorem exB_rc {r:Rm} {o:ByteArray} (h:r.d=finS z4B.dr (exD sdbB) o):r.links.l.length=1:=by
 have hn:(nodeB (exD sdbB)).isSome=true:=rfl
 have h1:=congrArg Rc.links h
 unfold finS at h1
 rw [hn] at h1
 dsimp only [if_true] at h1
 show r.d.links.length=1
 rw [h1];exact exB_links
def ExA (w:World) (e:Ending) (w':World):Prop:=∃ (r:Rm) (n:Int),e=.returned (.tuple #[.agg #[.string r.path,.int .i64 r.ix,.slice r.props.A r.props.l.length r.props.c,.slice r.tags.A r.tags.l.length r.tags.c,.slice r.links.A r.links.l.length r.links.c,.slice r.run.A r.run.l.length r.run.c,.slice r.load.A r.load.l.length r.load.c,.string r.nam,.int .i64 r.prio,.string r.own,.string r.grp,.int .i64 r.mode],.int .i64 n,.int .i64 0])∧(r.links.l.length=0∧r.tags.l.length=1∧(∃ y,findF r.props.l [73,68]=some y∧y.val=xB)∧r.props.l.length=5)∧RmN w' r∧From w.heap.size r.props.A∧Below w.heap.size w w'
def ExB (w:World) (e:Ending) (w':World):Prop:=∃ (r:Rm) (n:Int),e=.returned (.tuple #[.agg #[.string r.path,.int .i64 r.ix,.slice r.props.A r.props.l.length r.props.c,.slice r.tags.A r.tags.l.length r.tags.c,.slice r.links.A r.links.l.length r.links.c,.slice r.run.A r.run.l.length r.run.c,.slice r.load.A r.load.l.length r.load.c,.string r.nam,.int .i64 r.prio,.string r.own,.string r.grp,.int .i64 r.mode],.int .i64 n,.int .i64 0])∧r.links.l.length=1∧Below w.heap.size w w'
def ExH (w:World) (e:Ending) (w':World):Prop:=∃ HA hc,e=.returned (.tuple #[.slice HA 2 hc,.int .i64 0])∧RowN w' HA 1 2 (cellsOf encI [2,3])∧Below w.heap.size w w'
theorem exRcA {w w':World} {e:Ending} {x:Ev × List Int} (hx:x=(z4A,[0,1,3])) (h:ExRc sdaB x w e w'):ExA w e w':=by
 obtain ⟨r,he,h1,h2,h4,h3⟩:=h
 refine ⟨r,_,he,exA_rc (o:=orgB [exD sdaB] 1) ?_,h2,h4 _ (by simp [Rm.as]),h3⟩
 rw [h1,hx]
theorem exRcB {w w':World} {e:Ending} {x:Ev × List Int} (hx:x=(z4B,[2,3])) (h:ExRc sdbB x w e w'):ExB w e w':=by
 obtain ⟨r,he,h1,h2,_,h3⟩:=h
 refine ⟨r,_,he,exB_rc (o:=orgB [exD sdbB] 1) ?_,h3⟩
 rw [h1,hx]
theorem exHl {w w':World} {e:Ending} {x:List Int} (hx:x=[2,3]) (h:∃ HA hc,e=.returned (.tuple #[.slice HA x.length hc,.int .i64 0])∧RowN w' HA 1 x.length (cellsOf encI x)∧Below w.heap.size w w'):ExH w e w':=by
 subst hx
 exact h
theorem exRulesA {w:World} {g1 g2 g3 g4 g5 td th:Nat} (hE:EnvE w) (hR:RuE w (some ⟨g5,0,none⟩) (exR g1 g2 g3 g4)) (hM:InM w (exM sdaB td th)):Calls Tryz.prog 7 #[.slice (some ⟨g5,0,none⟩) 4 4,.agg #[.string ⟨#[97,100,100]⟩,.slice (some ⟨td,0,none⟩) 1 1,.int .i64 1,.string ⟨#[]⟩,.int .i64 0,.slice none 0 0,.slice none 0 0,.slice none 0 0,.slice none 0 0,.slice none 0 0,.string ⟨#[]⟩,.int .i64 0,.string ⟨#[]⟩,.string ⟨#[]⟩,.int .i64 0,.slice (some ⟨th,0,none⟩) 1 1,.int .i64 9]] w (ExA w) :=
 (exRules (s:=sdaB) (by decide) hE hR hM).mono fun _ _ h=>exRcA exA_is h
theorem exRulesB {w:World} {g1 g2 g3 g4 g5 td th:Nat} (hE:EnvE w) (hR:RuE w (some ⟨g5,0,none⟩) (exR g1 g2 g3 g4)) (hM:InM w (exM sdbB td th)):Calls Tryz.prog 7 #[.slice (some ⟨g5,0,none⟩) 4 4,.agg #[.string ⟨#[97,100,100]⟩,.slice (some ⟨td,0,none⟩) 1 1,.int .i64 1,.string ⟨#[]⟩,.int .i64 0,.slice none 0 0,.slice none 0 0,.slice none 0 0,.slice none 0 0,.slice none 0 0,.string ⟨#[]⟩,.int .i64 0,.string ⟨#[]⟩,.string ⟨#[]⟩,.int .i64 0,.slice (some ⟨th,0,none⟩) 1 1,.int .i64 9]] w (ExB w) :=
 (exRules (s:=sdbB) (by decide) hE hR hM).mono fun _ _ h=>exRcB exB_is h
theorem exHeldB {w:World} {g1 g2 g3 g4 g5 td th:Nat} (hE:EnvE w) (hR:RuE w (some ⟨g5,0,none⟩) (exR g1 g2 g3 g4)) (hM:InM w (exM sdbB td th)):Calls Tryz.prog 26 #[.slice (some ⟨g5,0,none⟩) 4 4,.agg #[.string ⟨#[97,100,100]⟩,.slice (some ⟨td,0,none⟩) 1 1,.int .i64 1,.string ⟨#[]⟩,.int .i64 0,.slice none 0 0,.slice none 0 0,.slice none 0 0,.slice none 0 0,.slice none 0 0,.string ⟨#[]⟩,.int .i64 0,.string ⟨#[]⟩,.string ⟨#[]⟩,.int .i64 0,.slice (some ⟨th,0,none⟩) 1 1,.int .i64 9]] w (ExH w) :=
 (exHeld (s:=sdbB) (by decide) hE hR hM).mono fun _ _ h=>exHl (by rw [exB_is]) h
theorem exR_blk {w w':World} {g g1 g2 g3 g4 g5:Nat} (h:RuE w (some ⟨g5,0,none⟩) (exR g1 g2 g3 g4)) (hg:w.grownBy w' (some g)) (h1:g1≠g) (h2:g2≠g) (h3:g3≠g) (h4:g4≠g) (h5:g5≠g):RuE w' (some ⟨g5,0,none⟩) (exR g1 g2 g3 g4):=by
 refine h.grown hg (fun p e=>by cases e;exact h5) (fun y hy p e=>?_)
 simp only [exR,List.mem_cons,List.not_mem_nil,or_false] at hy
 rcases hy with rfl | rfl | rfl | rfl
 · cases e;exact h1
 · cases e;exact h2
 · cases e;exact h3
 · cases e;exact h4
theorem exM_blk {w w':World} {s:ByteArray} {g td th:Nat} (h:InM w (exM s td th)) (hg:w.grownBy w' (some g)) (h1:td≠g) (h2:th≠g):InM w' (exM s td th):=by
 refine h.grown hg (fun a ha p e=>?_)
 rcases List.mem_append.1 ha with ha | ha
 · simp only [List.mem_cons,List.not_mem_nil,or_false,exM] at ha
   rcases ha with rfl | rfl | rfl | rfl | rfl | rfl | rfl | rfl
   · cases e;exact h1
   · cases e
   · cases e
   · cases e
   · cases e
   · cases e
   · cases e;exact h2
   · cases e
 · obtain ⟨x,hx,rfl⟩:=List.mem_map.1 ha
   rw [List.mem_singleton.1 hx] at e
   cases e
set_option maxHeartbeats 8000000 in
theorem known_any (w:World) (hE:EnvE w):Calls Tryz.prog 8 #[] w fun e w'=>e=.returned (.bool true)∧Below w.heap.size w w':=by
 have HE:=Lib.hid hE
 have HXa:=Lib.hid (Example_any sdaB w)
 clear hE
 go_enter Tryz.func8,Tryz.ntmps8
 go_wp2_with fail
 refine HXa.out.mono ?_
 rintro e w1 ⟨g1,g2,g3,g4,g5,td,th,rfl,-,hR1,hM1,hb1⟩
 go_upto_region 2 with fail
 obtain ⟨w2,hw2⟩:∃ w2,w1.alloc (.cells #[.string ⟨#[97,100,100]⟩,.slice (some ⟨td,0,none⟩) 1 1,.int .i64 1,.string ⟨#[]⟩,.int .i64 0,.slice none 0 0,.slice none 0 0,.slice none 0 0,.slice none 0 0,.slice none 0 0,.string ⟨#[]⟩,.int .i64 0,.string ⟨#[]⟩,.string ⟨#[]⟩,.int .i64 0,.slice (some ⟨th,0,none⟩) 1 1,.int .i64 9] inpT)=w2:=⟨_,rfl⟩
 have hb12:Below w1.heap.size w1 w2:=by rw [←hw2];exact below_alloc _ _
 have hk2:w2.heap[w1.heap.size]? = some (.cells #[.string ⟨#[97,100,100]⟩,.slice (some ⟨td,0,none⟩) 1 1,.int .i64 1,.string ⟨#[]⟩,.int .i64 0,.slice none 0 0,.slice none 0 0,.slice none 0 0,.slice none 0 0,.slice none 0 0,.string ⟨#[]⟩,.int .i64 0,.string ⟨#[]⟩,.string ⟨#[]⟩,.int .i64 0,.slice (some ⟨th,0,none⟩) 1 1,.int .i64 9] inpT (0,0)):=by rw [←hw2];exact heap_alloc_new _ _
 have hw12:w.heap.size≤w1.heap.size:=hb1.size
 have HB2:=Lib.hid (bt hb1 hb12)
 have HK2:=Lib.hid hk2
 have HRa:=Lib.hid (exRulesA (HE.out.go HB2.out) (hR1.keep hb12) (hM1.keep hb12))
 rw [hw2]
 clear hw2 hb12 hk2 hR1 hM1 hb1 HXa
 generalize w1.heap.size=t2 at *
 go_cut [3,4,5] from 17 to 23 (fun s3 s4 s5 wx=>∃ (t3:Nat) (n:Int) (r:Rm),s3=.pointer (some ⟨t3,0,none⟩)∧s4=.int .i64 n∧s5=.int .i64 0∧t2<t3∧Hid (wx.heap[t3]? = some (.cells #[.string r.path,.int .i64 r.ix,.slice r.props.A r.props.l.length r.props.c,.slice r.tags.A 1 r.tags.c,.slice r.links.A 0 r.links.c,.slice r.run.A r.run.l.length r.run.c,.slice r.load.A r.load.l.length r.load.c,.string r.nam,.int .i64 r.prio,.string r.own,.string r.grp,.int .i64 r.mode] recT (0,0)))∧Hid (wx.heap[t2]? = some (.cells #[.string ⟨#[97,100,100]⟩,.slice (some ⟨td,0,none⟩) 1 1,.int .i64 1,.string ⟨#[]⟩,.int .i64 0,.slice none 0 0,.slice none 0 0,.slice none 0 0,.slice none 0 0,.slice none 0 0,.string ⟨#[]⟩,.int .i64 0,.string ⟨#[]⟩,.string ⟨#[]⟩,.int .i64 0,.slice (some ⟨th,0,none⟩) 1 1,.int .i64 9] inpT (0,0)))∧Hid ((∃ y,findF r.props.l [73,68]=some y∧y.val=xB)∧r.props.l.length=5)∧Hid (LsN 2 encAt wx r.props)∧Hid (∀ a,r.props.A=some a→a.block≠t2)∧Hid (Below w.heap.size w wx))
 case first =>
  as_aux_lemma =>
  have x0:=cellOf (j:=0) HK2.out rfl
  have x1:=cellOf (j:=1) HK2.out rfl
  have x2:=cellOf (j:=2) HK2.out rfl
  have x3:=cellOf (j:=3) HK2.out rfl
  have x4:=cellOf (j:=4) HK2.out rfl
  have x5:=cellOf (j:=5) HK2.out rfl
  have x6:=cellOf (j:=6) HK2.out rfl
  have x7:=cellOf (j:=7) HK2.out rfl
  have x8:=cellOf (j:=8) HK2.out rfl
  have x9:=cellOf (j:=9) HK2.out rfl
  have x10:=cellOf (j:=10) HK2.out rfl
  have x11:=cellOf (j:=11) HK2.out rfl
  have x12:=cellOf (j:=12) HK2.out rfl
  have x13:=cellOf (j:=13) HK2.out rfl
  have x14:=cellOf (j:=14) HK2.out rfl
  have x15:=cellOf (j:=15) HK2.out rfl
  have x16:=cellOf (j:=16) HK2.out rfl
  go_wp2_with fail
  refine HRa.out.mono ?_
  rintro e w3 ⟨r,rn,rfl,⟨e1,e2,e3⟩,hN3,hfr3,hb3⟩
  have HPt:Hid (∀ a,r.props.A=some a→a.block≠t2):=Lib.hid (fun a e=>by have h1:=hfr3 a e;have h2:=blk_lt' HK2.out;omega)
  rw [e1,e2]
  have hl3:t2<w3.heap.size:=Nat.lt_of_lt_of_le (blk_lt' HK2.out) hb3.size
  have HT:=Lib.hid (heap_alloc_new w3 (.cells #[.string r.path,.int .i64 r.ix,.slice r.props.A r.props.l.length r.props.c,.slice r.tags.A 1 r.tags.c,.slice r.links.A 0 r.links.c,.slice r.run.A r.run.l.length r.run.c,.slice r.load.A r.load.l.length r.load.c,.string r.nam,.int .i64 r.prio,.string r.own,.string r.grp,.int .i64 r.mode] recT))
  have hba:=(bAl hb3:Below w2.heap.size w2 (w3.alloc (.cells #[.string r.path,.int .i64 r.ix,.slice r.props.A r.props.l.length r.props.c,.slice r.tags.A 1 r.tags.c,.slice r.links.A 0 r.links.c,.slice r.run.A r.run.l.length r.run.c,.slice r.load.A r.load.l.length r.load.c,.string r.nam,.int .i64 r.prio,.string r.own,.string r.grp,.int .i64 r.mode] recT)))
  have HK:=Lib.hid ((hba.block _ (blk_lt' HK2.out)).trans HK2.out)
  have HF:=Lib.hid e3
  have HN:=Lib.hid (hN3.pr.keep (below_alloc w3 (.cells #[.string r.path,.int .i64 r.ix,.slice r.props.A r.props.l.length r.props.c,.slice r.tags.A 1 r.tags.c,.slice r.links.A 0 r.links.c,.slice r.run.A r.run.l.length r.run.c,.slice r.load.A r.load.l.length r.load.c,.string r.nam,.int .i64 r.prio,.string r.own,.string r.grp,.int .i64 r.mode] recT)))
  have HB:=Lib.hid (bt HB2.out hba)
  clear e1 e2 e3 hN3 hb3 hba hfr3 x0 x1 x2 x3 x4 x5 x6 x7 x8 x9 x10 x11 x12 x13 x14 x15 x16
  go_wp2
  go_meet
  exact ⟨_,_,r,rfl,rfl,rfl,hl3,HT,HK,HF,HN,HPt,HB⟩
 case rest =>
 obtain ⟨t3,rn,r,rfl,rfl,rfl,hl3,HT4,HK4,HRc,HP4,HPt,HB4⟩:=hcut
 clear HRa HK2 HB2
 have HXb:=Lib.hid (Example_any sdbB wc)
 go_upto_region 3 with fail
 go_cut [1] from 24 to 27 (fun s1 wx=>∃ (k1 k2 k3 k4 k5 ud uh:Nat),s1=.slice (some ⟨k5,0,none⟩) 4 4∧Hid (wx.heap[t3]? = some (.cells #[.string r.path,.int .i64 r.ix,.slice r.props.A r.props.l.length r.props.c,.slice r.tags.A 1 r.tags.c,.slice r.links.A 0 r.links.c,.slice r.run.A r.run.l.length r.run.c,.slice r.load.A r.load.l.length r.load.c,.string r.nam,.int .i64 r.prio,.string r.own,.string r.grp,.int .i64 r.mode] recT (0,0)))∧Hid (wx.heap[t2]? = some (.cells #[.string ⟨#[97,100,100]⟩,.slice (some ⟨ud,0,none⟩) 1 1,.int .i64 1,.string ⟨#[]⟩,.int .i64 0,.slice none 0 0,.slice none 0 0,.slice none 0 0,.slice none 0 0,.slice none 0 0,.string ⟨#[]⟩,.int .i64 0,.string ⟨#[]⟩,.string ⟨#[]⟩,.int .i64 0,.slice (some ⟨uh,0,none⟩) 1 1,.int .i64 9] inpT (0,0)))∧Hid (LsN 2 encAt wx r.props)∧Hid (RuE wx (some ⟨k5,0,none⟩) (exR k1 k2 k3 k4))∧Hid (InM wx (exM sdbB ud uh))∧Hid (Below w.heap.size w wx))
 case first =>
  as_aux_lemma =>
  go_wp2_with fail
  refine HXb.out.mono ?_
  rintro e w5 ⟨k1,k2,k3,k4,k5,ud,uh,rfl,hfr,hR5,hM5,hb5⟩
  have HK5:=Lib.hid ((hb5.block _ (blk_lt' HK4.out)).trans HK4.out)
  have HT5:=Lib.hid ((hb5.block _ (blk_lt' HT4.out)).trans HT4.out)
  have ht24:t2<wc.heap.size:=blk_lt' HK4.out
  have hg6:=grown_setRow w5 t2 #[.string ⟨#[97,100,100]⟩,.slice (some ⟨ud,0,none⟩) 1 1,.int .i64 1,.string ⟨#[]⟩,.int .i64 0,.slice none 0 0,.slice none 0 0,.slice none 0 0,.slice none 0 0,.slice none 0 0,.string ⟨#[]⟩,.int .i64 0,.string ⟨#[]⟩,.string ⟨#[]⟩,.int .i64 0,.slice (some ⟨uh,0,none⟩) 1 1,.int .i64 9]
  have HK6:=Lib.hid (setRow_heap w5 t2 _ #[.string ⟨#[97,100,100]⟩,.slice (some ⟨ud,0,none⟩) 1 1,.int .i64 1,.string ⟨#[]⟩,.int .i64 0,.slice none 0 0,.slice none 0 0,.slice none 0 0,.slice none 0 0,.slice none 0 0,.string ⟨#[]⟩,.int .i64 0,.string ⟨#[]⟩,.string ⟨#[]⟩,.int .i64 0,.slice (some ⟨uh,0,none⟩) 1 1,.int .i64 9] _ _ HK5.out)
  have HT6:=Lib.hid ((hg6.block t3 (blk_lt' HT5.out) (fun e=>by have:=Option.some.inj e;omega)).trans HT5.out)
  have HB6:=Lib.hid ((bt HB4.out hb5).grown hg6 (bt HB4.out hb5).size (fun j e=>by have:=Option.some.inj e;omega):Below w.heap.size w (w5.setRow t2 #[.string ⟨#[97,100,100]⟩,.slice (some ⟨ud,0,none⟩) 1 1,.int .i64 1,.string ⟨#[]⟩,.int .i64 0,.slice none 0 0,.slice none 0 0,.slice none 0 0,.slice none 0 0,.slice none 0 0,.string ⟨#[]⟩,.int .i64 0,.string ⟨#[]⟩,.string ⟨#[]⟩,.int .i64 0,.slice (some ⟨uh,0,none⟩) 1 1,.int .i64 9]))
  have HR6:=Lib.hid (exR_blk hR5 hg6 (by omega) (by omega) (by omega) (by omega) (by omega))
  have HM6:=Lib.hid (exM_blk hM5 hg6 (by omega) (by omega))
  have HP6:=Lib.hid ((HP4.out.keep hb5).grown hg6 (fun a ha e=>HPt.out a ha (Option.some.inj e)))
  clear hg6 hfr hR5 hM5 hb5
  go_wp2_with (refine wpList_store_row rfl inpT _ _ rfl _ _ rfl rfl _ _ HK5.out (by exact inSize) rfl (by simp [Value.oneCell']) ?_)
  go_meet
  exact ⟨k1,k2,k3,k4,k5,ud,uh,rfl,HT6,HK6,HP6,HR6,HM6,HB6⟩
 case rest =>
 obtain ⟨k1,k2,k3,k4,k5,ud,uh,rfl,HT6,HK6,HP6,HR6,HM6,HB6⟩:=hcut
 clear HXb HT4 HK4 HP4 HB4
 generalize wc=w4 at *
 have HRb:=Lib.hid (exRulesB (HE.out.go HB6.out) HR6.out HM6.out)
 have hl26:t2<w4.heap.size:=blk_lt' HK6.out
 have hl36:t3<w4.heap.size:=blk_lt' HT6.out
 go_upto_region 4 with fail
 go_cut [6,7,8] from 28 to 34 (fun s6 s7 s8 wx=>∃ (t6:Nat) (n:Int) (r2:Rm),s6=.pointer (some ⟨t6,0,none⟩)∧s7=.int .i64 n∧s8=.int .i64 0∧Hid (wx.heap[t6]? = some (.cells #[.string r2.path,.int .i64 r2.ix,.slice r2.props.A r2.props.l.length r2.props.c,.slice r2.tags.A r2.tags.l.length r2.tags.c,.slice r2.links.A 1 r2.links.c,.slice r2.run.A r2.run.l.length r2.run.c,.slice r2.load.A r2.load.l.length r2.load.c,.string r2.nam,.int .i64 r2.prio,.string r2.own,.string r2.grp,.int .i64 r2.mode] recT (0,0)))∧Hid (Below w4.heap.size w4 wx))
 case first =>
  as_aux_lemma =>
  have x0:=cellOf (j:=0) HK6.out rfl
  have x1:=cellOf (j:=1) HK6.out rfl
  have x2:=cellOf (j:=2) HK6.out rfl
  have x3:=cellOf (j:=3) HK6.out rfl
  have x4:=cellOf (j:=4) HK6.out rfl
  have x5:=cellOf (j:=5) HK6.out rfl
  have x6:=cellOf (j:=6) HK6.out rfl
  have x7:=cellOf (j:=7) HK6.out rfl
  have x8:=cellOf (j:=8) HK6.out rfl
  have x9:=cellOf (j:=9) HK6.out rfl
  have x10:=cellOf (j:=10) HK6.out rfl
  have x11:=cellOf (j:=11) HK6.out rfl
  have x12:=cellOf (j:=12) HK6.out rfl
  have x13:=cellOf (j:=13) HK6.out rfl
  have x14:=cellOf (j:=14) HK6.out rfl
  have x15:=cellOf (j:=15) HK6.out rfl
  have x16:=cellOf (j:=16) HK6.out rfl
  go_wp2_with fail
  refine HRb.out.mono ?_
  rintro e w7 ⟨r2,rn2,rfl,hr2,hb7⟩
  rw [hr2]
  have HT:=Lib.hid (heap_alloc_new w7 (.cells #[.string r2.path,.int .i64 r2.ix,.slice r2.props.A r2.props.l.length r2.props.c,.slice r2.tags.A r2.tags.l.length r2.tags.c,.slice r2.links.A 1 r2.links.c,.slice r2.run.A r2.run.l.length r2.run.c,.slice r2.load.A r2.load.l.length r2.load.c,.string r2.nam,.int .i64 r2.prio,.string r2.own,.string r2.grp,.int .i64 r2.mode] recT))
  have HB:=Lib.hid (bAl hb7:Below w4.heap.size w4 (w7.alloc (.cells #[.string r2.path,.int .i64 r2.ix,.slice r2.props.A r2.props.l.length r2.props.c,.slice r2.tags.A r2.tags.l.length r2.tags.c,.slice r2.links.A 1 r2.links.c,.slice r2.run.A r2.run.l.length r2.run.c,.slice r2.load.A r2.load.l.length r2.load.c,.string r2.nam,.int .i64 r2.prio,.string r2.own,.string r2.grp,.int .i64 r2.mode] recT)))
  clear hr2 hb7 x0 x1 x2 x3 x4 x5 x6 x7 x8 x9 x10 x11 x12 x13 x14 x15 x16
  go_wp2
  go_meet
  exact ⟨_,_,r2,rfl,rfl,rfl,HT,HB⟩
 case rest =>
 obtain ⟨t6,rn2,r2,rfl,rfl,rfl,HU8,HBb⟩:=hcut
 have HK8:=Lib.hid ((HBb.out.block _ (blk_lt' HK6.out)).trans HK6.out)
 have HT8:=Lib.hid ((HBb.out.block _ (blk_lt' HT6.out)).trans HT6.out)
 have HB8:=Lib.hid (bt HB6.out HBb.out)
 have HP8:=Lib.hid (HP6.out.keep HBb.out)
 have HHb:=Lib.hid (exHeldB (HE.out.go HB8.out) (HR6.out.keep HBb.out) (HM6.out.keep HBb.out))
 clear HRb HK6 HT6 HB6 HP6 HBb HR6 HM6
 generalize wc=w8 at *
 go_upto_region 5 with fail
 go_cut [9,10] from 35 to 40 (fun s9 s10 wx=>∃ (HA:Option Addr) (hc:Nat),s9=.slice HA 2 hc∧s10=.int .i64 0∧Hid (RowN wx HA 1 2 (cellsOf encI [2,3]))∧Hid (Below w8.heap.size w8 wx))
 case first =>
  as_aux_lemma =>
  have x0:=cellOf (j:=0) HK8.out rfl
  have x1:=cellOf (j:=1) HK8.out rfl
  have x2:=cellOf (j:=2) HK8.out rfl
  have x3:=cellOf (j:=3) HK8.out rfl
  have x4:=cellOf (j:=4) HK8.out rfl
  have x5:=cellOf (j:=5) HK8.out rfl
  have x6:=cellOf (j:=6) HK8.out rfl
  have x7:=cellOf (j:=7) HK8.out rfl
  have x8:=cellOf (j:=8) HK8.out rfl
  have x9:=cellOf (j:=9) HK8.out rfl
  have x10:=cellOf (j:=10) HK8.out rfl
  have x11:=cellOf (j:=11) HK8.out rfl
  have x12:=cellOf (j:=12) HK8.out rfl
  have x13:=cellOf (j:=13) HK8.out rfl
  have x14:=cellOf (j:=14) HK8.out rfl
  have x15:=cellOf (j:=15) HK8.out rfl
  have x16:=cellOf (j:=16) HK8.out rfl
  go_wp2_with fail
  refine HHb.out.mono ?_
  rintro e w9 ⟨HA,hc,rfl,hrow,hb9⟩
  have HR:=Lib.hid hrow
  have HB:=Lib.hid hb9
  clear hrow hb9 x0 x1 x2 x3 x4 x5 x6 x7 x8 x9 x10 x11 x12 x13 x14 x15 x16
  go_wp2
  go_meet
  exact ⟨HA,hc,rfl,rfl,HR,HB⟩
 case rest =>
 obtain ⟨HA,hc,rfl,rfl,HRw,HBh⟩:=hcut
 have HT9:=Lib.hid ((HBh.out.block _ (blk_lt' HT8.out)).trans HT8.out)
 have HU9:=Lib.hid ((HBh.out.block _ (blk_lt' HU8.out)).trans HU8.out)
 have HB9:=Lib.hid (bt HB8.out HBh.out)
 have HP9:=Lib.hid (HP8.out.keep HBh.out)
 clear HHb HK8 HT8 HU8 HB8 HP8 HBh
 generalize wc=w9 at *
 have HGt0:=PGet_any r.props.A r.props.c r.props.l ⟨#[73,68]⟩ w9 HP9.out.row.row (by have:=HRc.out.2;omega)
 obtain ⟨y,hy,hv⟩:=HRc.out.1
 unfold GetPost at HGt0
 rw [show findF r.props.l (L ⟨#[73,68]⟩)=some y from hy] at HGt0
 unfold getU at HGt0
 dsimp only at HGt0
 rw [hv] at HGt0
 have HGt:=Lib.hid HGt0
 have hl9:t3<w9.heap.size:=blk_lt' HT9.out
 have hl9b:t6<w9.heap.size:=blk_lt' HU9.out
 have v2:=cellOf (j:=2) HT9.out rfl
 have HSI:Hid (∀ W:World,Below w9.heap.size w9 W→Calls Tryz.prog 28 #[.slice HA 2 hc,.slice (some ⟨W.heap.size,0,none⟩) 2 2] (W.alloc (.cells #[.int .i64 2,.int .i64 3] 3)) fun e w'=>e=.returned (.bool true)∧Below (W.alloc (.cells #[.int .i64 2,.int .i64 3] 3)).heap.size (W.alloc (.cells #[.int .i64 2,.int .i64 3] 3)) w'):=Lib.hid fun W hW =>
  SameInts_yes HA (some ⟨W.heap.size,0,none⟩) hc 2 [2,3] _ (by decide) (HRw.out.keep (bAl hW)).row (rowN_blk (heap_alloc_new W _) rfl rfl).row
 clear hy hv HGt0 HRw HP9
 go_wp2_with (first
  | (go_at_call 27;refine HGt.out.mono ?_;rintro e wa ⟨rfl,hba⟩;have HBa:=Lib.hid hba;have v3:=cellOf (j:=3) ((hba.block _ (blk_lt' HT9.out)).trans HT9.out) rfl;have v4:=cellOf (j:=4) ((hba.block _ (blk_lt' HT9.out)).trans HT9.out) rfl;have u4:=cellOf (j:=4) ((hba.block _ (blk_lt' HU9.out)).trans HU9.out) rfl;clear hba)
  | (go_at_call 28;refine (HSI.out _ HBa.out).mono ?_;rintro e wz ⟨rfl,hbz⟩;have HBz:=Lib.hid hbz;clear hbz))
 go_ret
 exact ⟨rfl,bt HB9.out (bt (bAl HBa.out) HBz.out)⟩
end Go.Proofs.YtobcmlmbblgcdaaGreatDoor

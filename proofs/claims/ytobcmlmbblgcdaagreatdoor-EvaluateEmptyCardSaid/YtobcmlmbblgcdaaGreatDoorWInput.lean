/-
  Contract of coldplugworld's Input: some right input.
-/
import Derived.Test.YtobcmlmbblgcdaaGreatDoorWTree
import Derived.Test.YtobcmlmbblgcdaaGreatDoorG39
import Derived.Test.YtobcmlmbblgcdaaGreatDoorG41
namespace Go.Proofs.YtobcmlmbblgcdaaGreatDoor
set_option maxRecDepth 100000
open Go.RowKit
abbrev inC (A:Option Addr) (tc:Nat) (ds:List Dv) (ix:Int) (r:Rm) (hs:Ls Hp) (lim:Int):EmC:=⟨⟨#[97,100,100]⟩,A,tc,ds,ix,r,hs,lim,dv0,⟨#[]⟩,⟨#[]⟩⟩
structure InW (c:EmC):Prop where
 tw:TrW 1000 c.tds
 tl:c.tds.length≤20
 ix1 : -1≤c.ix
 ix2:c.ix≤1000
 hl:c.hs.l.length≤6
 hm:∀ x∈c.hs.l,x∈helpL
 lim1:1≤c.lim
 lim2:c.lim≤60
 act:c.act.size≤100
 pl:c.r.props.l.length≤20
 pz:∀ x∈c.r.props.l,x.name.size≤100∧x.val.size≤300000
theorem InW.z {c:EmC} (h:InW c):InZ c:=by
 refine ⟨⟨⟨h.lim1,by have:=h.lim2;show c.lim≤1000;omega,fun x hx=>?_⟩,fun x hx=>?_,fun n x hx=>?_⟩,fun d hd=>?_,h.tw.wf,by have:=h.tl;omega,by have:=h.ix1;omega,by have:=h.ix2;omega,by have:=h.hl;omega,fun y hy=>?_,by have:=h.act;omega,by have:=h.pl;omega,fun y hy=>?_,fun d hd=>?_⟩
 · have:=help_ok x (h.hm x hx)
   exact ⟨this.1,this.2.1⟩
 · have:=(h.pz x hx).2;omega
 · have:=runB_val n (dsD c.tds) c.ix x hx;omega
 · obtain ⟨x,hx,rfl⟩:=List.mem_map.1 hd
   have y:=h.tw.dv x hx
   have y1:=y.ix1
   have y2:=y.ix2
   have y3:=y.pa1
   have y4:=y.pa2
   have y5:=y.og
   have y6:=y.sb
   have y7:=y.dr
   have y8:=y.nb1
   have y9:=y.nb2
   refine ⟨⟨⟨?_,?_⟩,⟨?_,?_⟩,?_⟩,?_,?_,?_,?_,fun a ha=>?_⟩
   · show -9223372036854775808≤x.ix;omega
   · show x.ix≤9223372036854775807;omega
   · show -9223372036854775808≤x.pa;omega
   · show x.pa≤9223372036854775807;omega
   · show x.og.size≤1000;omega
   · show x.sb.size≤1000;omega
   · show x.dr.size≤1000;omega
   · show -9223372036854775808≤x.nb;omega
   · show x.nb≤9223372036854775807;omega
   · have:=(y.ats a ha).1;omega
 · have:=(help_ok y (h.hm y hy)).2.2;omega
 · have:=(h.pz y hy).1;omega
 · obtain ⟨x,hx,rfl⟩:=List.mem_map.1 hd
   have:=(h.tw.dv x hx).al
   show x.al.size≤1000000
   omega
structure InS (w0:World) (b n p d:Nat) (w:World) (R B:Nat) (c:EmC) (W:World):Prop where
 nx:TNx w0 b n p d w W
 bx:W.heap[B]? = some (.cells (inA c) inpT (0,0))
 rs:W.heap[R]? = some (.cells (inA inZ) inpT (0,0))
 im:InM W c
 fr:∀ a∈c.as,∀ q,a=some q→w.heap.size≤q.block∧q.block≠B∧q.block≠R
 lB:w.heap.size≤B
 lR:w.heap.size≤R
 ne:R≠B
 lo:w0.heap.size≤w.heap.size
section
variable {w0 w W W1:World} {b n p d d' R B:Nat} {c c':EmC}
theorem InS.bne (h:InS w0 b n p d w R B c W):b<w.heap.size:=by have:=h.nx.st.lt;have:=h.lo;omega
theorem InS.go (h:InS w0 b n p d w R B c W) (hT:TNx w0 b n p d' W W1):InS w0 b n p d' w R B c W1:=by
 have h1:=h.bne
 have h2:=h.lB
 have h3:=h.lR
 exact ⟨h.nx.trans hT,hT.blk h.bx (by omega),hT.blk h.rs (by omega),h.im.grown hT.gr (fun a ha q e=>by have:=(h.fr a ha q e).1;omega),h.fr,h2,h3,h.ne,h.lo⟩
theorem InS.below (h:InS w0 b n p d w R B c W) (hb:Below W.heap.size W W1):InS w0 b n p d w R B c W1 :=
 ⟨h.nx.belowW hb,(hb.block _ (blk_lt' h.bx)).trans h.bx,(hb.block _ (blk_lt' h.rs)).trans h.rs,h.im.keep hb,h.fr,h.lB,h.lR,h.ne,h.lo⟩
theorem InS.more (h:InS w0 b n p d w R B c W) (hd:d≤d'):InS w0 b n p d' w R B c W:=⟨h.nx.more hd,h.bx,h.rs,h.im,h.fr,h.lB,h.lR,h.ne,h.lo⟩
theorem InS.set (h:InS w0 b n p d w R B c W) (i:Nat) (v:Value) (e:(inA c).setIfInBounds i v=inA c') (hm:InM W c') (hf:∀ a∈c'.as,∀ q,a=some q→w.heap.size≤q.block∧q.block≠B∧q.block≠R):InS w0 b n p d w R B c' (W.setCell ⟨B,i,none⟩ v) :=
 ⟨h.nx.setCellR h.lB h.lo,by rw [heap_setCell_same _ _ _ _ _ _ h.bx,e],(heap_setCell_other W ⟨B,i,none⟩ _ v (by exact h.ne)).trans h.rs,hm.grown (grown_set W B i v) (fun a ha q e=>(hf a ha q e).2.1),hf,h.lB,h.lR,h.ne,h.lo⟩
theorem InS.row (h:InS w0 b n p d w R B c W) (hm:InM W c') (hf:∀ a∈c'.as,∀ q,a=some q→w.heap.size≤q.block∧q.block≠B∧q.block≠R):InS w0 b n p d w R B c' (W.setRow B (inA c')) :=
 ⟨h.nx.setRow h.lB h.lo _,setRow_heap _ _ _ _ _ _ h.bx,(setRow_other _ _ _ _ h.ne).trans h.rs,hm.grown (grown_setRow W B _) (fun a ha q e=>(hf a ha q e).2.1),hf,h.lB,h.lR,h.ne,h.lo⟩
theorem InS.cl (h:InS w0 b n p d w R B c W) {j:Nat} {u:Value} (hj:(inA c)[j]? = some u):W.cell? ⟨B,j,none⟩=some u:=cellOf h.bx hj
theorem InS.fz (h:InS w0 b n p d w R B c W) (j:Nat):W.frozen? ⟨B,j,none⟩=false:=frozen_of_row _ _ _ _ _ h.bx
end
abbrev rmP (s:ByteArray) (pa:Int) (PA:Option Addr) (pc:Nat) (l:List At):Rm:=⟨s,pa,⟨PA,pc,l⟩,⟨none,0,[]⟩,⟨none,0,[]⟩,⟨none,0,[]⟩,⟨none,0,[]⟩,⟨#[]⟩,0,⟨#[]⟩,⟨#[]⟩,0⟩
section
variable {w0 w W W1:World} {b n p d d' R B tc:Nat} {A:Option Addr} {ds:List Dv} {ix z pa pa':Int} {hs:Ls Hp} {s s':ByteArray} {PA PA':Option Addr} {pc pc':Nat} {l l':List At}
theorem InS.frP (h:InS w0 b n p d w R B (inC A tc ds ix (rmP s pa PA pc l) hs z) W) (hf:∀ q,PA'=some q→w.heap.size≤q.block∧q.block≠B∧q.block≠R):∀ a∈(inC A tc ds ix (rmP s' pa' PA' pc' l') hs z).as,∀ q,a=some q→w.heap.size≤q.block∧q.block≠B∧q.block≠R:=fun a ha q e=>by
 rcases List.mem_append.1 ha with ha' | ha'
 · simp only [List.mem_cons,List.not_mem_nil,or_false] at ha'
   rcases ha' with h1 | h1 | h1 | h1 | h1 | h1 | h1 | h1
   · exact h.fr a (by simp [EmC.as,h1]) q e
   · exact hf q (by rw [←h1];exact e)
   · rw [h1] at e;cases e
   · rw [h1] at e;cases e
   · rw [h1] at e;cases e
   · rw [h1] at e;cases e
   · exact h.fr a (by simp [EmC.as,h1]) q e
   · rw [h1] at e;cases e
 · exact h.fr a (List.mem_append_right _ ha') q e
theorem InS.parent {Lo:Nat} (h:InS w0 b n p d w R B (inC A tc ds ix rmZ hs z) W) (hL:LsN 2 encAt W ⟨PA,pc,l⟩) (hf:From Lo PA) (hB:B<Lo) (hR:R<Lo) (hw:w.heap.size≤Lo):InS w0 b n p d w R B (inC A tc ds ix (rmP s pa PA pc l) hs z) (W.setRow B (inA (inC A tc ds ix (rmP s pa PA pc l) hs z))) :=
 h.row ⟨h.im.tr,⟨hL,LsN.empty,LsN.empty,LsN.empty,LsN.empty⟩,h.im.hp⟩ (InS.frP (s:=⟨#[]⟩) (pa:=0) (PA:=none) (pc:=0) (l:=[]) h (fun q e=>by have:=hf q e;exact ⟨by omega,by omega,by omega⟩))
theorem InS.props {Lo:Nat} (h:InS w0 b n p d w R B (inC A tc ds ix (rmP s pa PA pc l) hs z) W) (hL:LsN 2 encAt W ⟨PA',pc',l'⟩) (hf:From Lo PA') (hB:B<Lo) (hR:R<Lo) (hw:w.heap.size≤Lo):InS w0 b n p d w R B (inC A tc ds ix (rmP s pa PA' pc' l') hs z) (W.setCell ⟨B,5,none⟩ (.slice PA' l'.length pc')) :=
 h.set 5 _ rfl ⟨h.im.tr,⟨hL,LsN.empty,LsN.empty,LsN.empty,LsN.empty⟩,h.im.hp⟩ (h.frP (fun q e=>by have:=hf q e;exact ⟨by omega,by omega,by omega⟩))
theorem InS.stRec (h:InS w0 b n p d w R B (inC A tc ds ix rmZ hs z) W):(stG recT (.pointer (some ⟨B,3,none⟩)) (.agg (rcA (rmP s pa PA pc l)))).run Tryz.prog W=.ok () (W.setRow B (inA (inC A tc ds ix (rmP s pa PA pc l) hs z))):=by
 have h1:=stG_at (P:=Tryz.prog) (w:=W) (T:=recT) (g:=B) (o:=3) (cs:=inA (inC A tc ds ix rmZ hs z)) (vs:=rcA (rmP s pa PA pc l)) h.bx (by show 3+12≤17;omega) (by show 0<12;omega) (by exact rcSize) (rcA_one _)
 rw [show setAll (inA (inC A tc ds ix rmZ hs z)) 3 (rcA (rmP s pa PA pc l)).toList=inA (inC A tc ds ix (rmP s pa PA pc l) hs z) from by kernel_rfl] at h1
 exact h1
end
def SomeIn (w0:World) (b n p d:Nat) (w:World) (e:Ending) (w':World):Prop:=∃ c:EmC,e=.returned (.agg (inA c))∧InM w' c∧InW c∧(∀ a∈c.as,From w.heap.size a)∧TNx w0 b n p d w w'
theorem InS.fin {w0 w W:World} {b n p d R B:Nat} {c:EmC} (h:InS w0 b n p d w R B c W) (hw:InW c):SomeIn w0 b n p d w (.returned (.agg (inA c))) (W.setRow R (inA c)) :=
 ⟨c,rfl,h.im.grown (grown_setRow W R _) (fun a ha q e=>(h.fr a ha q e).2.2),hw,fun a ha q e=>(h.fr a ha q e).1,h.nx.setRow h.lR h.lo _⟩
attribute [local go_sem ↓] st_rec
set_option maxHeartbeats 8000000 in
theorem Input_any {w0 w:World} {b n p d:Nat} (h:TSt w0 b n p d w) (hE:Env0 w) (hb:nG≤b) (m:Nat) (hm:m≤20) (h3:p+d≤60000) :
 Calls Tryz.prog 6 #[.pointer (some ⟨b,0,none⟩),.int .i64 m] w (SomeIn w0 b n p (d+3000) w):=by
 have hlb:=h.lt
 have hws:=h.size
 have HE:=Lib.hid hE
 obtain ⟨w1,hw1⟩:∃ w1,w.alloc (.cells (inA inZ) inpT)=w1:=⟨_,rfl⟩
 have hb1:Below w.heap.size w w1:=by rw [←hw1];exact below_alloc _ _
 have hr1:w1.heap[w.heap.size]? = some (.cells (inA inZ) inpT (0,0)):=by rw [←hw1];exact heap_alloc_new _ _
 have hs1:w1.heap.size=w.heap.size+1:=by rw [←hw1];simp
 have HTree:=Lib.hid (Tree_any (h.below hb1) (hE.go hb1) hb m hm (by omega))
 have HW1:=Lib.hid hw1
 have HB1:=Lib.hid hb1
 have HR1:=Lib.hid hr1
 have H1:=Lib.hid (TNx.refl (h.below hb1))
 clear hE h hb1 hr1 hw1
 go_enter Tryz.func6,Tryz.ntmps6
 go_upto_region 1 with fail
 rw [show w.alloc (.cells #[.string ⟨#[]⟩,.slice none 0 0,.int .i64 0,.string ⟨#[]⟩,.int .i64 0,.slice none 0 0,.slice none 0 0,.slice none 0 0,.slice none 0 0,.slice none 0 0,.string ⟨#[]⟩,.int .i64 0,.string ⟨#[]⟩,.string ⟨#[]⟩,.int .i64 0,.slice none 0 0,.int .i64 0] inpT)=w1 from HW1.out]
 go_wp2_with fail
 (with_reducible refine HTree.out.mono ?_)
 rintro e w2 ⟨A,tc,ds,rfl,hTr,hFA,hFi,hcp,hlm,hTW,hT⟩
 have hs2:w1.heap.size≤w2.heap.size:=hT.gr.size
 obtain ⟨w3,hw3⟩:∃ w3,w2.alloc (.cells (inA (inC A tc ds 0 rmZ ⟨none,0,[]⟩ 0)) inpT)=w3:=⟨_,rfl⟩
 have hS3:InS w0 b n p (d+2000) w w.heap.size w2.heap.size (inC A tc ds 0 rmZ ⟨none,0,[]⟩ 0) w3:=by
  have hb3:Below w2.heap.size w2 w3:=by rw [←hw3];exact below_alloc _ _
  have hnx:TNx w0 b n p (d+2000) w w2:=hT.of_below HB1.out
  have hfs:∀ (X:Option Addr),From w1.heap.size X→(∀ q,X=some q→q.block<w2.heap.size)→∀ q,X=some q→w.heap.size≤q.block∧q.block≠w2.heap.size∧q.block≠w.heap.size:=fun X h1 h2 q e=>⟨by have:=h1 q e;omega,by have:=h2 q e;omega,by have:=h1 q e;omega⟩
  refine ⟨hnx.belowW hb3,by rw [←hw3];exact heap_alloc_new _ _,(hb3.block _ (by omega)).trans (hT.blk HR1.out (by omega)),⟨hTr.keep hb3,⟨LsN.empty,LsN.empty,LsN.empty,LsN.empty,LsN.empty⟩,LsN.empty⟩,fun a ha q e=>?_,by omega,Nat.le_refl _,by omega,hws⟩
  rcases List.mem_append.1 ha with ha | ha
  · simp only [List.mem_cons,List.not_mem_nil,or_false] at ha
    rcases ha with rfl | rfl | rfl | rfl | rfl | rfl | rfl | rfl
    · exact hfs _ hFA (fun q e=>(hTr.row.pl q e).2) q e
    all_goals cases e
  · obtain ⟨x,hx,rfl⟩:=List.mem_map.1 ha
    exact hfs _ (hFi x hx) (fun q e=>((hTr.inn x hx).pl q e).2) q e
 have HS3:=Lib.hid hS3
 have HTW:=Lib.hid hTW
 have HTl:=Lib.hid hlm
 have HFA:Hid (From w0.heap.size A):=Lib.hid (From.mono hFA (by omega))
 have HY:Hid (∀ x∈ds,DvY 1000 x):=Lib.hid fun x hx=>(hTW.dv x hx).mono (by omega)
 clear hTr hFA hFi hTW hT hS3
 unfold trV
 as_aux_lemma =>
 go_upto_region 2 with fail
 rw [show w2.alloc (.cells #[.string ⟨#[97,100,100]⟩,.slice A ds.length tc,.int .i64 0,.string ⟨#[]⟩,.int .i64 0,.slice none 0 0,.slice none 0 0,.slice none 0 0,.slice none 0 0,.slice none 0 0,.string ⟨#[]⟩,.int .i64 0,.string ⟨#[]⟩,.string ⟨#[]⟩,.int .i64 0,.slice none 0 0,.int .i64 0] inpT)=w3 from hw3]
 clear hw3
 generalize w2.heap.size=B at *
 have t1:w3.cell? ⟨B,1,none⟩=some (.slice A ds.length tc):=HS3.out.cl rfl
 have HSo:=Lib.hid (Some_any (n:=n) (p:=p) HS3.out.nx.st (by omega) A tc ds HS3.out.im.tr HFA.out HY.out)
 unfold trV at HSo
 go_wp2_with fail
 (with_reducible refine HSo.out.mono ?_)
 rintro e w4 ⟨ix,rfl,hx1,hx2,hT⟩
 have HS4:=Lib.hid (HS3.out.go hT)
 have HS5:=Lib.hid (HS4.out.set (c':=inC A tc ds ix rmZ ⟨none,0,[]⟩ 0) 2 (.int .i64 ix) rfl ⟨HS4.out.im.tr,HS4.out.im.rc,HS4.out.im.hp⟩ HS4.out.fr)
 clear hT t1
 have f2:=HS4.out.fz 2
 have x2:w4.cell? ⟨B,2,none⟩=some (.int .i64 0):=HS4.out.cl rfl
 have HHe:=Lib.hid (Helpers_any (n:=n) (p:=p) HS5.out.nx.st (by omega))
 go_wp2_with fail
 (with_reducible refine HHe.out.mono ?_)
 rintro e w6 ⟨hv,hl,z,rfl,hl6,hmem,hz1,hz2,hHR⟩
 obtain ⟨hA,hc,rfl⟩:=own_slice hHR.own
 have HS6:=Lib.hid (HS5.out.go hHR.nx)
 obtain ⟨hLs,hLf⟩:=LsN.of_own (k:=4) (enc:=encHp) hHR.own
 have hfr7:∀ lim,∀ a∈(inC A tc ds ix rmZ ⟨hA,hc,hl⟩ lim).as,∀ q,a=some q→w.heap.size≤q.block∧q.block≠B∧q.block≠w.heap.size:=fun lim a ha q e=>by
  rcases List.mem_append.1 ha with ha' | ha'
  · simp only [List.mem_cons,List.not_mem_nil,or_false] at ha'
    rcases ha' with rfl | rfl | rfl | rfl | rfl | rfl | rfl | rfl
    · exact HS6.out.fr _ (by simp [EmC.as]) q e
    · cases e
    · cases e
    · cases e
    · cases e
    · cases e
    · have h1:=hLf q e
      have h2:=blk_lt' HS5.out.bx
      have h3:=HS5.out.lB
      exact ⟨by omega,by omega,by omega⟩
    · cases e
  · exact HS6.out.fr a (List.mem_append_right _ ha') q e
 have HS7:=Lib.hid (HS6.out.set (c':=inC A tc ds ix rmZ ⟨hA,hc,hl⟩ 0) 15 (.slice hA hl.length hc) rfl ⟨HS6.out.im.tr,HS6.out.im.rc,hLs⟩ (hfr7 0))
 have HS8:=Lib.hid (HS7.out.set (c':=inC A tc ds ix rmZ ⟨hA,hc,hl⟩ z) 16 (.int .i64 z) rfl ⟨HS7.out.im.tr,HS7.out.im.rc,HS7.out.im.hp⟩ (hfr7 z))
 have f15:=HS6.out.fz 15
 have x15:w6.cell? ⟨B,15,none⟩=some (.slice none 0 0):=HS6.out.cl rfl
 have f16:=HS6.out.fz 16
 have x16:w6.cell? ⟨B,16,none⟩=some (.int .i64 0):=HS6.out.cl rfl
 have HMem:=Lib.hid hmem
 clear hmem hHR hLs hLf hfr7 f2 x2
 as_aux_lemma =>
 go_upto_region 4 with fail
 obtain ⟨w8,hw8⟩:∃ w8,(w6.setCell ⟨B,15,none⟩ (.slice hA hl.length hc)).setCell ⟨B,16,none⟩ (.int .i64 z)=w8:=⟨_,rfl⟩
 rw [hw8] at HS8 ⊢
 clear hw8 f15 x15 f16 x16
 have HEnd:Hid (∀ (D:Nat) (c:EmC) (W:World),D≤d+3000→InS w0 b n p D w w.heap.size B c W→InW c→SomeIn w0 b n p (d+3000) w (.returned (.agg (inA c))) (W.setRow w.heap.size (inA c))):=Lib.hid fun D c W hD h hw=>(h.more hD).fin hw
 have HIw:Hid (∀ r:Rm,r.props.l.length≤20→(∀ x∈r.props.l,x.name.size≤100∧x.val.size≤300000)→InW (inC A tc ds ix r ⟨hA,hc,hl⟩ z)):=Lib.hid fun r h1 h2=>⟨⟨HTW.out.wf,HY.out⟩,Nat.le_trans HTl.out hm,hx1,hx2,hl6,HMem.out,hz1,hz2,(by show ByteArray.size ⟨#[97,100,100]⟩≤100;decide),h1,h2⟩
 have HIz:=Lib.hid (HIw.out rmZ (Nat.zero_le _) (fun x hx=>by cases hx))
 have HFi:=Lib.hid (RFindD_any A tc ds ix w8 HS8.out.im.tr)
 have t1:w8.cell? ⟨B,1,none⟩=some (.slice A ds.length tc):=HS8.out.cl rfl
 have t2:w8.cell? ⟨B,2,none⟩=some (.int .i64 ix):=HS8.out.cl rfl
 have hlB:=HS8.out.lB
 have hlB8:=blk_lt' HS8.out.bx
 unfold trV at HFi
 cases hfx:findX ds ix with
 | none =>
   as_aux_lemma =>
   rw [hfx] at HFi
   unfold RFindP dvV at HFi
   dsimp only [Option.getD,Option.isSome] at HFi
   go_upto_region 5 with (go_at_call 20;refine HFi.out.mono ?_;go_loud (rintro e w9 ⟨rfl,hb9⟩;have HB9:=Lib.hid hb9;clear hb9))
   obtain ⟨wa,hwa⟩:∃ wa,w9.alloc (.cells #[.int .i64 0,.int .i64 0,.string ⟨#[]⟩,.string ⟨#[]⟩,.string ⟨#[]⟩,.string ⟨#[]⟩,.string ⟨#[]⟩,.int .i64 0,.int .i64 0,.slice none 0 0] devT)=wa:=⟨_,rfl⟩
   have HS9:=Lib.hid (HS8.out.below (by rw [←hwa];exact bAl HB9.out:Below w8.heap.size w8 wa))
   rw [hwa]
   clear hwa t1 t2 HFi
   have q0:wa.cell? ⟨B,0,none⟩=some (.string ⟨#[97,100,100]⟩):=HS9.out.cl rfl
   have q1:wa.cell? ⟨B,1,none⟩=some (.slice A ds.length tc):=HS9.out.cl rfl
   have q2:wa.cell? ⟨B,2,none⟩=some (.int .i64 ix):=HS9.out.cl rfl
   have q3:wa.cell? ⟨B,3,none⟩=some (.string ⟨#[]⟩):=HS9.out.cl rfl
   have q4:wa.cell? ⟨B,4,none⟩=some (.int .i64 0):=HS9.out.cl rfl
   have q5:wa.cell? ⟨B,5,none⟩=some (.slice none 0 0):=HS9.out.cl rfl
   have q6:wa.cell? ⟨B,6,none⟩=some (.slice none 0 0):=HS9.out.cl rfl
   have q7:wa.cell? ⟨B,7,none⟩=some (.slice none 0 0):=HS9.out.cl rfl
   have q8:wa.cell? ⟨B,8,none⟩=some (.slice none 0 0):=HS9.out.cl rfl
   have q9:wa.cell? ⟨B,9,none⟩=some (.slice none 0 0):=HS9.out.cl rfl
   have q10:wa.cell? ⟨B,10,none⟩=some (.string ⟨#[]⟩):=HS9.out.cl rfl
   have q11:wa.cell? ⟨B,11,none⟩=some (.int .i64 0):=HS9.out.cl rfl
   have q12:wa.cell? ⟨B,12,none⟩=some (.string ⟨#[]⟩):=HS9.out.cl rfl
   have q13:wa.cell? ⟨B,13,none⟩=some (.string ⟨#[]⟩):=HS9.out.cl rfl
   have q14:wa.cell? ⟨B,14,none⟩=some (.int .i64 0):=HS9.out.cl rfl
   have q15:wa.cell? ⟨B,15,none⟩=some (.slice hA hl.length hc):=HS9.out.cl rfl
   have q16:wa.cell? ⟨B,16,none⟩=some (.int .i64 z):=HS9.out.cl rfl
   go_wp2_with (refine wpList_store_row rfl inpT _ _ rfl _ _ rfl rfl _ _ HS9.out.rs (by exact inSize) rfl (by simp [Value.oneCell']) ?_)
   all_goals
    refine post_cellrow rfl (by rfl) HS9.out.rs Tryz.underlying37 rfl (by exact inSize) (by rfl) ?_
    exact HEnd.out _ (inC A tc ds ix rmZ ⟨hA,hc,hl⟩ z) _ (by omega) HS9.out (HIz.out)
 | some x =>
   as_aux_lemma =>
   rw [hfx] at HFi
   unfold RFindP dvV at HFi
   dsimp only [Option.getD,Option.isSome] at HFi
   obtain ⟨xix,pa,nam,og,sb,dr,al,kd,nb,⟨SA,sc,l⟩⟩:=x
   dsimp only at HFi
   generalize l.length=ln at *
   go_upto_region 5 with (go_at_call 20;refine HFi.out.mono ?_;rintro e w9 ⟨rfl,hb9⟩;have HB9:=Lib.hid hb9;clear hb9)
   obtain ⟨wa,hwa⟩:∃ wa,w9.alloc (.cells #[.int .i64 xix,.int .i64 pa,.string nam,.string og,.string sb,.string dr,.string al,.int .i64 kd,.int .i64 nb,.slice SA ln sc] devT)=wa:=⟨_,rfl⟩
   have hba:Below w8.heap.size w8 wa:=by rw [←hwa];exact bAl HB9.out
   have hqa:wa.heap[w9.heap.size]? = some (.cells #[.int .i64 xix,.int .i64 pa,.string nam,.string og,.string sb,.string dr,.string al,.int .i64 kd,.int .i64 nb,.slice SA ln sc] devT (0,0)):=by rw [←hwa];exact heap_alloc_new _ _
   have HSa:=Lib.hid (HS8.out.below hba)
   have HQa:=Lib.hid hqa
   have hq9:w8.heap.size≤w9.heap.size:=HB9.out.size
   rw [hwa]
   clear hwa hba hqa t1 t2 HFi
   generalize w9.heap.size=q at *
   have p1:=cellOf (j:=1) HQa.out rfl
   by_cases h0:pa=0
   · subst h0
     as_aux_lemma =>
     have q0:wa.cell? ⟨B,0,none⟩=some (.string ⟨#[97,100,100]⟩):=HSa.out.cl rfl
     have q1:wa.cell? ⟨B,1,none⟩=some (.slice A ds.length tc):=HSa.out.cl rfl
     have q2:wa.cell? ⟨B,2,none⟩=some (.int .i64 ix):=HSa.out.cl rfl
     have q3:wa.cell? ⟨B,3,none⟩=some (.string ⟨#[]⟩):=HSa.out.cl rfl
     have q4:wa.cell? ⟨B,4,none⟩=some (.int .i64 0):=HSa.out.cl rfl
     have q5:wa.cell? ⟨B,5,none⟩=some (.slice none 0 0):=HSa.out.cl rfl
     have q6:wa.cell? ⟨B,6,none⟩=some (.slice none 0 0):=HSa.out.cl rfl
     have q7:wa.cell? ⟨B,7,none⟩=some (.slice none 0 0):=HSa.out.cl rfl
     have q8:wa.cell? ⟨B,8,none⟩=some (.slice none 0 0):=HSa.out.cl rfl
     have q9:wa.cell? ⟨B,9,none⟩=some (.slice none 0 0):=HSa.out.cl rfl
     have q10:wa.cell? ⟨B,10,none⟩=some (.string ⟨#[]⟩):=HSa.out.cl rfl
     have q11:wa.cell? ⟨B,11,none⟩=some (.int .i64 0):=HSa.out.cl rfl
     have q12:wa.cell? ⟨B,12,none⟩=some (.string ⟨#[]⟩):=HSa.out.cl rfl
     have q13:wa.cell? ⟨B,13,none⟩=some (.string ⟨#[]⟩):=HSa.out.cl rfl
     have q14:wa.cell? ⟨B,14,none⟩=some (.int .i64 0):=HSa.out.cl rfl
     have q15:wa.cell? ⟨B,15,none⟩=some (.slice hA hl.length hc):=HSa.out.cl rfl
     have q16:wa.cell? ⟨B,16,none⟩=some (.int .i64 z):=HSa.out.cl rfl
     go_wp2_with (refine wpList_store_row rfl inpT _ _ rfl _ _ rfl rfl _ _ HSa.out.rs (by exact inSize) rfl (by simp [Value.oneCell']) ?_)
     all_goals
      refine post_cellrow rfl (by rfl) HSa.out.rs Tryz.underlying37 rfl (by exact inSize) (by rfl) ?_
      exact HEnd.out _ (inC A tc ds ix rmZ ⟨hA,hc,hl⟩ z) _ (by omega) HSa.out (HIz.out)
   · have hp0:(pa != 0)=true:=by simpa using h0
     go_wp2_with fail
     (with_reducible refine (Next_t (n:=n) (p:=p) _ HSa.out.nx.st (by omega) (by omega) (by omega)).mono ?_)
     rintro e wb ⟨r5,r50,r51,rfl,hT⟩
     have HSb:=Lib.hid (HSa.out.go hT)
     have HQb:=Lib.hid (hT.blk HQa.out (by omega))
     clear hT p1
     by_cases hr5:0<r5
     · as_aux_lemma =>
       have p1b:wb.cell? ⟨q,1,none⟩=some (.int .i64 pa):=cellOf HQb.out rfl
       have HEb:=Lib.hid (HE.out.nxW HSb.out.nx hb)
       have hlBb:=blk_lt' HSb.out.bx
       have HPl:Hid (∀ W:World,Below wb.heap.size wb W→Calls Tryz.prog 21 #[.agg #[.slice A ds.length tc],.int .i64 pa] W fun e w'=>∃ s,e=.returned (.string s)∧s.size≤200000∧Below W.heap.size W w'):=Lib.hid fun W hW=>RPlace_any A tc ds pa W (HSb.out.im.tr.keep hW) (by have:=HTl.out;omega) (fun y hy=>by have:=(HY.out y hy).og;omega)
       have HBs:Hid (∀ W:World,Below wb.heap.size wb W→Calls Tryz.prog 22 #[.agg #[.slice A ds.length tc],.int .i64 pa] W (SomeAl 7 W)):=Lib.hid fun W hW=>RBase_any A tc ds pa W (HEb.out.go hW) (HSb.out.im.tr.keep hW) (by have:=HTl.out;omega) HY.out
       have HLd:Hid (∀ W:World,Below wb.heap.size wb W→W.cell? ⟨B,1,none⟩=some (.slice A ds.length tc)∧W.cell? ⟨q,1,none⟩=some (.int .i64 pa)):=Lib.hid fun W hW=>⟨(HSb.out.below hW).cl rfl,cellOf ((hW.block _ (blk_lt' HQb.out)).trans HQb.out) rfl⟩
       have HLy:∀ (W:World) (c:EmC),(W.setRow B (inA c)).heap[B]? = some (.cells (inA c) inpT (0,0))→(inA c)[1]? = some (.slice A ds.length tc)→Below wb.heap.size wb W→Hid ((W.setRow B (inA c)).cell? ⟨B,1,none⟩=some (.slice A ds.length tc)∧(W.setRow B (inA c)).cell? ⟨q,1,none⟩=some (.int .i64 pa)):=fun W c h1 h2 hW=>Lib.hid ⟨cellOf h1 h2,cellOf ((setRow_other W _ _ _ (show q≠B by omega)).trans ((hW.block _ (blk_lt' HQb.out)).trans HQb.out)) rfl⟩
       clear p1b
       go_upto_region 6 with fail
       go_cut [7] from 43 to 56 (fun s7 wx=>s7=.bool true∧∃ (s:ByteArray) (PA:Option Addr) (pc:Nat) (l:List At) (D:Nat),D≤d+2900+0∧Hid (l.length≤7+0∧∀ x∈l,x.name.size≤100∧x.val.size≤300000)∧Hid (InS w0 b n p D w w.heap.size B (inC A tc ds ix (rmP s pa PA pc l) ⟨hA,hc,hl⟩ z) wx))
       case first =>
        as_aux_lemma =>
        go_region_held3 (fun W'=>W'.cell? ⟨B,1,none⟩=some (.slice A ds.length tc)∧W'.cell? ⟨q,1,none⟩=some (.int .i64 pa)) (first | exact HLd.out _ (by first | exact bDr (Below.refl _ _) | exact HBp.out | exact HBq.out) | exact HLx.out) ((first
         | (go_at_call 21
            first
            | (refine (HPl.out _ (bDr (Below.refl _ _))).mono ?_
               rintro e wp ⟨s,rfl,hs,hbp⟩
               have HBp:=Lib.hid (bt (bDr (Below.refl wb.heap.size wb)) hbp)
               clear hbp)
            | (refine (HPl.out _ HBq.out).mono ?_
               rintro e wp ⟨s,rfl,hs,hbp⟩
               have HBp:=Lib.hid (bt HBq.out hbp)
               have hSx:=HSb.out.below HBp.out
               have hst:(stG recT (.pointer (some ⟨B,3,none⟩)) (.agg #[.string s,.int .i64 pa,.slice PA l.length pc,.slice none 0 0,.slice none 0 0,.slice none 0 0,.slice none 0 0,.string ⟨#[]⟩,.int .i64 0,.string ⟨#[]⟩,.string ⟨#[]⟩,.int .i64 0])).run Tryz.prog wp=.ok () (wp.setRow B (inA (inC A tc ds ix (rmP s pa PA pc l) ⟨hA,hc,hl⟩ z))):=hSx.stRec (s:=s) (pa:=pa) (PA:=PA) (pc:=pc) (l:=l)
               have HLs:=LsN.of_own (k:=2) (enc:=encAt) (own_below2 HOw.out.own hbp)
               have HFn:=Lib.hid (hSx.parent (s:=s) (pa:=pa) HLs.1 HLs.2 hlBb (by show w.heap.size<wb.heap.size;omega) (by show w.heap.size≤wb.heap.size;omega))
               have HSz:Hid (l.length≤7∧∀ x∈l,x.name.size≤100∧x.val.size≤300000):=Lib.hid ⟨HOw.out.len,HOw.out.sz⟩
               have HLx:=HLy wp (inC A tc ds ix (rmP s pa PA pc l) ⟨hA,hc,hl⟩ z) HFn.out.bx rfl HBp.out
               clear hbp hSx HLs))
         | (go_at_call 22
            first
            | (refine (HBs.out _ (bDr (Below.refl _ _))).mono ?_
               rintro e wq ⟨PA,pc,l,rfl,how⟩
               have HOw:=Lib.hid how
               have HBq:=Lib.hid (bt (bDr (Below.refl wb.heap.size wb)) how.bl)
               clear how)
            | (refine (HBs.out _ HBp.out).mono ?_
               rintro e wq ⟨PA,pc,l,rfl,how⟩
               have HBq:=Lib.hid (bt HBp.out how.bl)
               have hSx:=HSb.out.below HBq.out
               have hst:(stG recT (.pointer (some ⟨B,3,none⟩)) (.agg #[.string s,.int .i64 pa,.slice PA l.length pc,.slice none 0 0,.slice none 0 0,.slice none 0 0,.slice none 0 0,.string ⟨#[]⟩,.int .i64 0,.string ⟨#[]⟩,.string ⟨#[]⟩,.int .i64 0])).run Tryz.prog wq=.ok () (wq.setRow B (inA (inC A tc ds ix (rmP s pa PA pc l) ⟨hA,hc,hl⟩ z))):=hSx.stRec (s:=s) (pa:=pa) (PA:=PA) (pc:=pc) (l:=l)
               have HLs:=LsN.of_own (k:=2) (enc:=encAt) how.own
               have hlp:=HBp.out.size
               have HFn:=Lib.hid (hSx.parent (s:=s) (pa:=pa) HLs.1 HLs.2 (by omega) (by show w.heap.size<wp.heap.size;omega) (by show w.heap.size≤wp.heap.size;omega))
               have HSz:Hid (l.length≤7∧∀ x∈l,x.name.size≤100∧x.val.size≤300000):=Lib.hid ⟨how.len,how.sz⟩
               have HLx:=HLy wq (inC A tc ds ix (rmP s pa PA pc l) ⟨hA,hc,hl⟩ z) HFn.out.bx rfl HBq.out
               clear how hSx HLs))))
        all_goals
         go_wp2
         go_meet
         exact ⟨rfl,s,PA,pc,l,_,by omega,HSz,HFn⟩
       case rest =>
       obtain ⟨rfl,s,PA,pc,l,D,hD,HSz,HSp⟩:=hcut
       clear HPl HBs HLd HEb HSb HQb
       generalize wc=wp at *
       have hlB1:=blk_lt' HSp.out.bx
       have hlo1:=HSp.out.lB
       go_upto_region 7 with fail
       go_cut [7] from 57 to 65 (fun s7 wx=>s7=.bool true∧∃ (PA:Option Addr) (pc:Nat) (l:List At) (D:Nat),D≤d+2900+1∧Hid (l.length≤7+1∧∀ x∈l,x.name.size≤100∧x.val.size≤300000)∧Hid (InS w0 b n p D w w.heap.size B (inC A tc ds ix (rmP s pa PA pc l) ⟨hA,hc,hl⟩ z) wx))
       case first =>
        as_aux_lemma =>
        have x5:wp.cell? ⟨B,5,none⟩=some (.slice PA l.length pc):=HSp.out.cl rfl
        obtain ⟨wd,hwd⟩:∃ wd,(wp.alloc (.cells #[.string ⟨#[]⟩,.string ⟨#[112]⟩,.string ⟨#[49]⟩] 9)).drew=wd:=⟨_,rfl⟩
        have HSd:=Lib.hid (by rw [←hwd];exact HSp.out.below (bDr (below_alloc _ _)):InS w0 b n p D w w.heap.size B (inC A tc ds ix (rmP s pa PA pc l) ⟨hA,hc,hl⟩ z) wd)
        have HRow:Hid (wd.heap[wp.heap.size]? = some (.cells #[.string ⟨#[]⟩,.string ⟨#[112]⟩,.string ⟨#[49]⟩] 9 (0,0))):=Lib.hid (by rw [←hwd];exact heap_alloc_new wp _)
        have hgb:wp.heap.size≠b:=by have:=HSp.out.bne;have:=hlB1;omega
        have HWd:=Lib.hid hwd
        have hl20:l.length≤100:=by have:=HSz.out.1;omega
        clear hwd
        go_region_with (first
         | (go_at_call 14;go_loud (rw [HWd.out]);go_loud ((with_reducible refine (One_k (n:=n) (p:=p) 60 #[.string ⟨#[]⟩,.string ⟨#[112]⟩,.string ⟨#[49]⟩] 9 _ 3 _ HSd.out.nx.st HRow.out (by decide) rfl (by decide) (by decide) hgb (by omega)).mono ?_));rintro e wf ⟨s1,hs1,rfl,hT⟩;have HSf:=Lib.hid (HSd.out.go hT);(have x5f:wf.cell? ⟨B,5,none⟩=some (.slice PA l.length pc):=HSf.out.cl rfl);clear hT)
         | (go_at_call 23;go_loud (refine (RSet_at PA pc l (⟨#[73,68,95,65]⟩:ByteArray) s1 wf (by omega) HSf.out.im.rc.pr.row.row).mono ?_);rintro e wg ⟨v,m,rfl,hown,hml,hat,hbg⟩;obtain ⟨MA,mc,rfl⟩:=own_slice hown;have hSg:=HSf.out.below hbg;have hLs:=LsN.of_own (k:=2) (enc:=encAt) hown;(have hBf:B<wf.heap.size:=blk_lt' HSf.out.bx);have HSh:=Lib.hid (hSg.props hLs.1 hLs.2 hBf (by have:=HSf.out.lB;omega) (by have:=HSf.out.lB;omega));(have HSm:Hid (m.length≤7+1∧∀ x∈m,x.name.size≤100∧x.val.size≤300000):=Lib.hid ⟨by have:=HSz.out.1;omega,fun x hx=>by rcases hat x hx with h1 | rfl;exact HSz.out.2 x h1;exact ⟨(by decide:ByteArray.size (⟨#[73,68,95,65]⟩:ByteArray)≤100),by show s1.size≤300000;omega⟩⟩);have z5:=hSg.fz 5;(have y5:wg.cell? ⟨B,5,none⟩=some (.slice PA l.length pc):=hSg.cl rfl);clear hown hat hbg hSg hLs))
        all_goals
         go_wp2
         go_meet
         exact ⟨rfl,MA,mc,m,_,by omega,HSm,HSh⟩
       case rest =>
       clear HSz HSp
       obtain ⟨rfl,PA,pc,l,D,hD,HSz,HSp⟩:=hcut
       generalize wc=wp at *
       have hlB2:=blk_lt' HSp.out.bx
       have hlo2:=HSp.out.lB
       go_upto_region 8 with fail
       go_cut [7] from 66 to 74 (fun s7 wx=>s7=.bool true∧∃ (PA:Option Addr) (pc:Nat) (l:List At) (D:Nat),D≤d+2900+2∧Hid (l.length≤7+2∧∀ x∈l,x.name.size≤100∧x.val.size≤300000)∧Hid (InS w0 b n p D w w.heap.size B (inC A tc ds ix (rmP s pa PA pc l) ⟨hA,hc,hl⟩ z) wx))
       case first =>
        as_aux_lemma =>
        have x5:wp.cell? ⟨B,5,none⟩=some (.slice PA l.length pc):=HSp.out.cl rfl
        obtain ⟨wd,hwd⟩:∃ wd,(wp.alloc (.cells #[.string ⟨#[]⟩,.string ⟨#[122]⟩] 9)).drew=wd:=⟨_,rfl⟩
        have HSd:=Lib.hid (by rw [←hwd];exact HSp.out.below (bDr (below_alloc _ _)):InS w0 b n p D w w.heap.size B (inC A tc ds ix (rmP s pa PA pc l) ⟨hA,hc,hl⟩ z) wd)
        have HRow:Hid (wd.heap[wp.heap.size]? = some (.cells #[.string ⟨#[]⟩,.string ⟨#[122]⟩] 9 (0,0))):=Lib.hid (by rw [←hwd];exact heap_alloc_new wp _)
        have hgb:wp.heap.size≠b:=by have:=HSp.out.bne;have:=hlB2;omega
        have HWd:=Lib.hid hwd
        have hl20:l.length≤100:=by have:=HSz.out.1;omega
        clear hwd
        go_region_with (first
         | (go_at_call 14;go_loud (rw [HWd.out]);go_loud ((with_reducible refine (One_k (n:=n) (p:=p) 60 #[.string ⟨#[]⟩,.string ⟨#[122]⟩] 9 _ 2 _ HSd.out.nx.st HRow.out (by decide) rfl (by decide) (by decide) hgb (by omega)).mono ?_));rintro e wf ⟨s1,hs1,rfl,hT⟩;have HSf:=Lib.hid (HSd.out.go hT);(have x5f:wf.cell? ⟨B,5,none⟩=some (.slice PA l.length pc):=HSf.out.cl rfl);clear hT)
         | (go_at_call 23;go_loud (refine (RSet_at PA pc l (⟨#[73,68,95,90]⟩:ByteArray) s1 wf (by omega) HSf.out.im.rc.pr.row.row).mono ?_);rintro e wg ⟨v,m,rfl,hown,hml,hat,hbg⟩;obtain ⟨MA,mc,rfl⟩:=own_slice hown;have hSg:=HSf.out.below hbg;have hLs:=LsN.of_own (k:=2) (enc:=encAt) hown;(have hBf:B<wf.heap.size:=blk_lt' HSf.out.bx);have HSh:=Lib.hid (hSg.props hLs.1 hLs.2 hBf (by have:=HSf.out.lB;omega) (by have:=HSf.out.lB;omega));(have HSm:Hid (m.length≤7+2∧∀ x∈m,x.name.size≤100∧x.val.size≤300000):=Lib.hid ⟨by have:=HSz.out.1;omega,fun x hx=>by rcases hat x hx with h1 | rfl;exact HSz.out.2 x h1;exact ⟨(by decide:ByteArray.size (⟨#[73,68,95,90]⟩:ByteArray)≤100),by show s1.size≤300000;omega⟩⟩);have z5:=hSg.fz 5;(have y5:wg.cell? ⟨B,5,none⟩=some (.slice PA l.length pc):=hSg.cl rfl);clear hown hat hbg hSg hLs))
        all_goals
         go_wp2
         go_meet
         exact ⟨rfl,MA,mc,m,_,by omega,HSm,HSh⟩
       case rest =>
       clear HSz HSp
       obtain ⟨rfl,PA,pc,l,D,hD,HSz,HSp⟩:=hcut
       generalize wc=wp at *
       as_aux_lemma =>
       have q0:wp.cell? ⟨B,0,none⟩=some (.string ⟨#[97,100,100]⟩):=HSp.out.cl rfl
       have q1:wp.cell? ⟨B,1,none⟩=some (.slice A ds.length tc):=HSp.out.cl rfl
       have q2:wp.cell? ⟨B,2,none⟩=some (.int .i64 ix):=HSp.out.cl rfl
       have q3:wp.cell? ⟨B,3,none⟩=some (.string s):=HSp.out.cl rfl
       have q4:wp.cell? ⟨B,4,none⟩=some (.int .i64 pa):=HSp.out.cl rfl
       have q5:wp.cell? ⟨B,5,none⟩=some (.slice PA l.length pc):=HSp.out.cl rfl
       have q6:wp.cell? ⟨B,6,none⟩=some (.slice none 0 0):=HSp.out.cl rfl
       have q7:wp.cell? ⟨B,7,none⟩=some (.slice none 0 0):=HSp.out.cl rfl
       have q8:wp.cell? ⟨B,8,none⟩=some (.slice none 0 0):=HSp.out.cl rfl
       have q9:wp.cell? ⟨B,9,none⟩=some (.slice none 0 0):=HSp.out.cl rfl
       have q10:wp.cell? ⟨B,10,none⟩=some (.string ⟨#[]⟩):=HSp.out.cl rfl
       have q11:wp.cell? ⟨B,11,none⟩=some (.int .i64 0):=HSp.out.cl rfl
       have q12:wp.cell? ⟨B,12,none⟩=some (.string ⟨#[]⟩):=HSp.out.cl rfl
       have q13:wp.cell? ⟨B,13,none⟩=some (.string ⟨#[]⟩):=HSp.out.cl rfl
       have q14:wp.cell? ⟨B,14,none⟩=some (.int .i64 0):=HSp.out.cl rfl
       have q15:wp.cell? ⟨B,15,none⟩=some (.slice hA hl.length hc):=HSp.out.cl rfl
       have q16:wp.cell? ⟨B,16,none⟩=some (.int .i64 z):=HSp.out.cl rfl
       have hlBz:=blk_lt' HSp.out.bx
       go_wp2_with (refine wpList_store_row rfl inpT _ _ rfl _ _ rfl rfl _ _ HSp.out.rs (by exact inSize) rfl (by simp [Value.oneCell']) ?_)
       all_goals
        refine post_cellrow rfl (by rfl) HSp.out.rs Tryz.underlying37 rfl (by exact inSize) (by rfl) ?_
        exact HEnd.out _ (inC A tc ds ix (rmP s pa PA pc l) ⟨hA,hc,hl⟩ z) _ (by omega) HSp.out (HIw.out _ (by have:=HSz.out.1;show l.length≤20;omega) HSz.out.2)
     · as_aux_lemma =>
       have hd5:decide (0<r5)=false:=by simpa using hr5
       have q0:wb.cell? ⟨B,0,none⟩=some (.string ⟨#[97,100,100]⟩):=HSb.out.cl rfl
       have q1:wb.cell? ⟨B,1,none⟩=some (.slice A ds.length tc):=HSb.out.cl rfl
       have q2:wb.cell? ⟨B,2,none⟩=some (.int .i64 ix):=HSb.out.cl rfl
       have q3:wb.cell? ⟨B,3,none⟩=some (.string ⟨#[]⟩):=HSb.out.cl rfl
       have q4:wb.cell? ⟨B,4,none⟩=some (.int .i64 0):=HSb.out.cl rfl
       have q5:wb.cell? ⟨B,5,none⟩=some (.slice none 0 0):=HSb.out.cl rfl
       have q6:wb.cell? ⟨B,6,none⟩=some (.slice none 0 0):=HSb.out.cl rfl
       have q7:wb.cell? ⟨B,7,none⟩=some (.slice none 0 0):=HSb.out.cl rfl
       have q8:wb.cell? ⟨B,8,none⟩=some (.slice none 0 0):=HSb.out.cl rfl
       have q9:wb.cell? ⟨B,9,none⟩=some (.slice none 0 0):=HSb.out.cl rfl
       have q10:wb.cell? ⟨B,10,none⟩=some (.string ⟨#[]⟩):=HSb.out.cl rfl
       have q11:wb.cell? ⟨B,11,none⟩=some (.int .i64 0):=HSb.out.cl rfl
       have q12:wb.cell? ⟨B,12,none⟩=some (.string ⟨#[]⟩):=HSb.out.cl rfl
       have q13:wb.cell? ⟨B,13,none⟩=some (.string ⟨#[]⟩):=HSb.out.cl rfl
       have q14:wb.cell? ⟨B,14,none⟩=some (.int .i64 0):=HSb.out.cl rfl
       have q15:wb.cell? ⟨B,15,none⟩=some (.slice hA hl.length hc):=HSb.out.cl rfl
       have q16:wb.cell? ⟨B,16,none⟩=some (.int .i64 z):=HSb.out.cl rfl
       go_wp2_with (refine wpList_store_row rfl inpT _ _ rfl _ _ rfl rfl _ _ HSb.out.rs (by exact inSize) rfl (by simp [Value.oneCell']) ?_)
       all_goals
        refine post_cellrow rfl (by rfl) HSb.out.rs Tryz.underlying37 rfl (by exact inSize) (by rfl) ?_
        exact HEnd.out _ (inC A tc ds ix rmZ ⟨hA,hc,hl⟩ z) _ (by omega) HSb.out (HIz.out)
end Go.Proofs.YtobcmlmbblgcdaaGreatDoor

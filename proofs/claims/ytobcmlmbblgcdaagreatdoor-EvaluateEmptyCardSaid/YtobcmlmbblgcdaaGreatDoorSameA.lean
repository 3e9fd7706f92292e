/-
  SameAttrs, SameTexts and SameRecord at what is alike.
-/
import Derived.Test.YtobcmlmbblgcdaaGreatDoorG26
namespace Go.Proofs.YtobcmlmbblgcdaaGreatDoor
set_option maxRecDepth 100000
open Go.RowKit
set_option maxHeartbeats 1000000 in
theorem SameAttrs_yes (A A':Option Addr) (c c':Nat) (l:List At) (w:World) (hn:l.length≤4611686018427387904) (h:RowAt w w.heap.size A 2 l.length (cellsOf encAt l)) (h':RowAt w w.heap.size A' 2 l.length (cellsOf encAt l)) :
 Calls Tryz.prog 35 #[.slice A l.length c,.slice A' l.length c'] w fun e w'=>e=.returned (.bool true)∧Below w.heap.size w w':=by
 have H:=Lib.hid h
 have H':=Lib.hid h'
 clear h h'
 generalize hN:l.length=N at *
 have HN:=Lib.hid hN
 clear hN
 go_enter Tryz.func35,Tryz.ntmps35
 go_wp2
 go_loopw [5] (fun i wr=>∃ k:Nat,k≤N∧i=.int .i64 k∧Hid (Below w.heap.size w wr)) (fun i _=>N - (intOf i).toNat)
 case atStart=>exact ⟨0,Nat.zero_le _,rfl,Below.refl _ _⟩
 case round =>
  obtain ⟨k,hk,rfl,hdr⟩:=hrel
  by_cases hlt:k<N
  · obtain ⟨x,hx⟩:∃ x,l[k]? = some x:=⟨_,List.getElem?_eq_getElem (by rw [HN.out];exact hlt)⟩
    have hr:=H.out
    have hr':=H'.out
    rw [←HN.out] at hr hr'
    obtain ⟨ba,off,hA,hba,hcc⟩:=hr.fileX hx
    obtain ⟨ba',off',hA',hba',hcc'⟩:=hr'.fileX hx
    obtain ⟨c0,c1⟩:=hcc _ hdr.out
    obtain ⟨d0,d1⟩:=hcc' _ hdr.out
    subst hA hA'
    have hltI:(k:Int)<(N:Int):=by omega
    have hNI:(N:Int)≤4611686018427387904:=by omega
    clear hr hr' hcc hcc' hx hba hba'
    go_wp2
    go_quiet (fail)
    go_wp2
    exact ⟨⟨k+1,by omega,by go_num,below_drewN hdr.out _⟩,by simp [intOf];omega⟩
  · obtain rfl:k=N:=by omega
    go_wp2
    go_ret
    exact ⟨rfl,hdr.out⟩
set_option maxHeartbeats 1000000 in
theorem SameTextsE_yes (A A':Option Addr) (c c':Nat) (l:List Str) (w:World) (hn:l.length≤4611686018427387904) (h:RowAt w w.heap.size A 1 l.length (cellsOf encS l)) (h':RowAt w w.heap.size A' 1 l.length (cellsOf encS l)) :
 Calls Tryz.prog 36 #[.slice A l.length c,.slice A' l.length c'] w fun e w'=>e=.returned (.bool true)∧Below w.heap.size w w':=by
 have hl1:∀ x,(encS x).length=1:=fun _=>rfl
 have HT:∀ {X:Option Addr},RowAt w w.heap.size X 1 l.length (cellsOf encS l)→∀ (k:Nat) (y:Str),l[k]? = some y→∃ ba off,X=some ⟨ba,off,none⟩∧∀ W:World,Below w.heap.size w W→W.cell? ⟨ba,off+k,none⟩=some (.string (bs y)):=fun hX k y hy=>by
  have hk:k<l.length:=(List.getElem?_eq_some_iff.1 hy).1
  obtain ⟨ba,off,e,hb,hc⟩:=hX.cell hl1 hk
  refine ⟨ba,off,e,fun W hW=>?_⟩
  have h0:=hc k y hy 0 _ rfl
  rw [Nat.mul_one,Nat.add_zero] at h0
  exact (hW.cell (p:=⟨ba,off+k,none⟩) hb).trans h0
 have H:=Lib.hid (HT h)
 have H':=Lib.hid (HT h')
 clear h h' HT hl1
 generalize hN:l.length=N at *
 have HN:=Lib.hid hN
 clear hN
 go_enter Tryz.func36,Tryz.ntmps36
 go_wp2
 go_loopw [5] (fun i wr=>∃ k:Nat,k≤N∧i=.int .i64 k∧Hid (Below w.heap.size w wr)) (fun i _=>N - (intOf i).toNat)
 case atStart=>exact ⟨0,Nat.zero_le _,rfl,Below.refl _ _⟩
 case round =>
  obtain ⟨k,hk,rfl,hdr⟩:=hrel
  by_cases hlt:k<N
  · obtain ⟨x,hx⟩:∃ x,l[k]? = some x:=⟨_,List.getElem?_eq_getElem (by rw [HN.out];exact hlt)⟩
    obtain ⟨ba,off,hA,hcc⟩:=H.out k x hx
    obtain ⟨ba',off',hA',hcc'⟩:=H'.out k x hx
    have c0:=hcc _ hdr.out
    have d0:=hcc' _ hdr.out
    subst hA hA'
    generalize bs x=xb at *
    have hltI:(k:Int)<(N:Int):=by omega
    have hNI:(N:Int)≤4611686018427387904:=by omega
    clear hcc hcc' hx
    go_wp2
    go_quiet (fail)
    go_wp2
    exact ⟨⟨k+1,by omega,by go_num,below_drewN hdr.out _⟩,by simp [intOf];omega⟩
  · obtain rfl:k=N:=by omega
    go_wp2
    go_ret
    exact ⟨rfl,hdr.out⟩
set_option maxHeartbeats 4000000 in
theorem SameRecord_yes (r s:Rm) (hd:r.d=s.d) (w:World) (hr:RmN w r) (hs:RmN w s) (z1:r.props.l.length≤1000000) (z2:r.tags.l.length≤1000000) (z3:r.links.l.length≤1000000) (z4:r.run.l.length≤1000000) (z5:r.load.l.length≤1000000) :
 Calls Tryz.prog 12 #[.agg (rcA r),.agg (rcA s)] w fun e w'=>e=.returned (.bool true)∧Below w.heap.size w w':=by
 obtain ⟨pa,ix,⟨A1,c1,l1⟩,⟨A2,c2,l2⟩,⟨A3,c3,l3⟩,⟨A4,c4,l4⟩,⟨A5,c5,l5⟩,na,pr,ow,gr,mo⟩:=r
 obtain ⟨pa',ix',⟨B1,e1,m1⟩,⟨B2,e2,m2⟩,⟨B3,e3,m3⟩,⟨B4,e4,m4⟩,⟨B5,e5,m5⟩,na',pr',ow',gr',mo'⟩:=s
 unfold Rm.d at hd
 injection hd with h1 h2 h3 h4 h5 h6 h7 h8 h9 h10 h11 h12
 dsimp only at h1 h2 h3 h4 h5 h6 h7 h8 h9 h10 h11 h12 z1 z2 z3 z4 z5
 subst h1 h2 h3 h4 h5 h6 h7 h8 h9 h10 h11 h12
 unfold rcA
 dsimp only
 obtain ⟨w1,hw1⟩:∃ w1,(w.alloc (.cells #[.string pa,.int .i64 ix,.slice A1 l1.length c1,.slice A2 l2.length c2,.slice A3 l3.length c3,.slice A4 l4.length c4,.slice A5 l5.length c5,.string na,.int .i64 pr,.string ow,.string gr,.int .i64 mo] recT)).alloc (.cells #[.string pa,.int .i64 ix,.slice B1 l1.length e1,.slice B2 l2.length e2,.slice B3 l3.length e3,.slice B4 l4.length e4,.slice B5 l5.length e5,.string na,.int .i64 pr,.string ow,.string gr,.int .i64 mo] recT)=w1:=⟨_,rfl⟩
 have hb1:Below w.heap.size w w1:=by rw [←hw1];exact bAl (below_alloc _ _)
 have hr1:w1.heap[w.heap.size]? = some (.cells #[.string pa,.int .i64 ix,.slice A1 l1.length c1,.slice A2 l2.length c2,.slice A3 l3.length c3,.slice A4 l4.length c4,.slice A5 l5.length c5,.string na,.int .i64 pr,.string ow,.string gr,.int .i64 mo] recT (0,0)):=by rw [←hw1];exact ((below_alloc _ _).block _ (by simp)).trans (heap_alloc_new _ _)
 have hr2:w1.heap[w.heap.size+1]? = some (.cells #[.string pa,.int .i64 ix,.slice B1 l1.length e1,.slice B2 l2.length e2,.slice B3 l3.length e3,.slice B4 l4.length e4,.slice B5 l5.length e5,.string na,.int .i64 pr,.string ow,.string gr,.int .i64 mo] recT (0,0)):=by
  rw [←hw1]
  have:=heap_alloc_new (w.alloc (.cells #[.string pa,.int .i64 ix,.slice A1 l1.length c1,.slice A2 l2.length c2,.slice A3 l3.length c3,.slice A4 l4.length c4,.slice A5 l5.length c5,.string na,.int .i64 pr,.string ow,.string gr,.int .i64 mo] recT)) (.cells #[.string pa,.int .i64 ix,.slice B1 l1.length e1,.slice B2 l2.length e2,.slice B3 l3.length e3,.slice B4 l4.length e4,.slice B5 l5.length e5,.string na,.int .i64 pr,.string ow,.string gr,.int .i64 mo] recT)
  simpa using this
 have HC1:=Lib.hid (fun (W:World) (hW:Below w1.heap.size w1 W)=>(hW.block _ (blk_lt' hr1)).trans hr1)
 have HC2:=Lib.hid (fun (W:World) (hW:Below w1.heap.size w1 W)=>(hW.block _ (blk_lt' hr2)).trans hr2)
 have HA:=Lib.hid (fun (W:World) (hW:Below w1.heap.size w1 W)=>SameAttrs_yes A1 B1 c1 e1 l1 W (by omega) (hr.pr.keep (bt hb1 hW)).row.row (hs.pr.keep (bt hb1 hW)).row.row)
 have HT2:=Lib.hid (fun (W:World) (hW:Below w1.heap.size w1 W)=>SameTextsE_yes A2 B2 c2 e2 l2 W (by omega) (hr.tg.keep (bt hb1 hW)).row.row (hs.tg.keep (bt hb1 hW)).row.row)
 have HT3:=Lib.hid (fun (W:World) (hW:Below w1.heap.size w1 W)=>SameTextsE_yes A3 B3 c3 e3 l3 W (by omega) (hr.lk.keep (bt hb1 hW)).row.row (hs.lk.keep (bt hb1 hW)).row.row)
 have HT4:=Lib.hid (fun (W:World) (hW:Below w1.heap.size w1 W)=>SameTextsE_yes A4 B4 c4 e4 l4 W (by omega) (hr.rn.keep (bt hb1 hW)).row.row (hs.rn.keep (bt hb1 hW)).row.row)
 have HT5:=Lib.hid (fun (W:World) (hW:Below w1.heap.size w1 W)=>SameTextsE_yes A5 B5 c5 e5 l5 W (by omega) (hr.ld.keep (bt hb1 hW)).row.row (hs.ld.keep (bt hb1 hW)).row.row)
 have HW1:=Lib.hid hw1
 have HB1:=Lib.hid hb1
 clear hr hs hr1 hr2 hb1 hw1 z1 z2 z3 z4 z5
 generalize hn1:l1.length=n1 at *
 generalize hn2:l2.length=n2 at *
 generalize hn3:l3.length=n3 at *
 generalize hn4:l4.length=n4 at *
 generalize hn5:l5.length=n5 at *
 clear hn1 hn2 hn3 hn4 hn5
 have hl2:w.heap.size+1<w1.heap.size:=blk_lt' (HC2.out w1 (Below.refl _ _))
 go_enter Tryz.func12,Tryz.ntmps12
 go_wp2_with (first
  | (go_at_call 35;rw [HW1.out];refine (HA.out _ (Below.refl _ _)).mono ?_;rintro e w2 ⟨rfl,hb2⟩;have HB2:=Lib.hid hb2;have ax3:=cellOf (j:=3) (HC1.out _ HB2.out) rfl;have ay3:=cellOf (j:=3) (HC2.out _ HB2.out) rfl;clear hb2)
  | (go_at_call 36;(with_reducible refine (HT2.out _ HB2.out).mono ?_);rintro e w3 ⟨rfl,hb3⟩;have HB3:=Lib.hid (bt HB2.out hb3);have bx4:=cellOf (j:=4) (HC1.out _ HB3.out) rfl;have by4:=cellOf (j:=4) (HC2.out _ HB3.out) rfl;clear hb3)
  | (go_at_call 36;(with_reducible refine (HT3.out _ HB3.out).mono ?_);rintro e w4 ⟨rfl,hb4⟩;have HB4:=Lib.hid (bt HB3.out hb4);have cx5:=cellOf (j:=5) (HC1.out _ HB4.out) rfl;have cy5:=cellOf (j:=5) (HC2.out _ HB4.out) rfl;clear hb4)
  | (go_at_call 36;(with_reducible refine (HT4.out _ HB4.out).mono ?_);rintro e w5 ⟨rfl,hb5⟩;have HB5:=Lib.hid (bt HB4.out hb5);have dx6:=cellOf (j:=6) (HC1.out _ HB5.out) rfl;have dy6:=cellOf (j:=6) (HC2.out _ HB5.out) rfl;clear hb5)
  | (go_at_call 36;(with_reducible refine (HT5.out _ HB5.out).mono ?_);rintro e w6 ⟨rfl,hb6⟩;have HB6:=Lib.hid (bt HB5.out hb6);have fx7:=cellOf (j:=7) (HC1.out _ HB6.out) rfl;have fy7:=cellOf (j:=7) (HC2.out _ HB6.out) rfl;have fx8:=cellOf (j:=8) (HC1.out _ HB6.out) rfl;have fy8:=cellOf (j:=8) (HC2.out _ HB6.out) rfl;have fx9:=cellOf (j:=9) (HC1.out _ HB6.out) rfl;have fy9:=cellOf (j:=9) (HC2.out _ HB6.out) rfl;have fx10:=cellOf (j:=10) (HC1.out _ HB6.out) rfl;have fy10:=cellOf (j:=10) (HC2.out _ HB6.out) rfl;have fx11:=cellOf (j:=11) (HC1.out _ HB6.out) rfl;have fy11:=cellOf (j:=11) (HC2.out _ HB6.out) rfl;clear hb6))
 go_ret
 exact ⟨rfl,bt HB1.out HB6.out⟩
end Go.Proofs.YtobcmlmbblgcdaaGreatDoor

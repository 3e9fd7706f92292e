/-
  Contract of coldplugworld's Tree: some valid tree of few devices.
-/
import Derived.Test.YtobcmlmbblgcdaaGreatDoorG39
import Derived.Test.YtobcmlmbblgcdaaGreatDoorWDevT
import Derived.Test.YtobcmlmbblgcdaaGreatDoorWtG
namespace Go.Proofs.YtobcmlmbblgcdaaGreatDoor
set_option maxRecDepth 100000
open Go.RowKit
theorem DvX.w {K:Int} {ds:List Dv} {x:Dv} (h:DvX K ds x):DvW x:=⟨by have:=h.nam;omega,by have:=h.og;omega,by have:=h.sb;omega,by have:=h.dr;omega,by have:=h.al;omega,by have:=h.len;omega,fun y hy=>by have:=(h.ats y hy).2;omega,fun y hy=>by have:=(h.ats y hy).1;omega⟩
theorem DvX.y {K:Int} {ds:List Dv} {x:Dv} (h:DvX K ds x) (hd:∀ d∈ds,DvY K d) (hk:0≤K):DvY (K+1) x:=by
 have hp:0≤x.pa∧x.pa≤K:=by
  rcases h.pa with e | ⟨y,hy,e⟩
  · omega
  · have h1:=(hd y hy).ix1
    have h2:=(hd y hy).ix2
    omega
 exact ⟨h.nam,h.og,h.sb,h.dr,h.al,h.ats,h.len,h.ix1,h.ix2,hp.1,by omega,h.nb1,h.nb2⟩
theorem TrW.ins {K:Int} {ds:List Dv} {x:Dv} {m:Nat} (h:TrW K ds) (hx:DvX K ds x) (hk:0≤K) (hn:findX ds x.ix=none) (hp:x.pa=0∨∃ y∈ds.take m,y.ix=x.pa):TrW (K+1) (ds.take m++x :: ds.drop m):=by
 refine ⟨?_,fun d hd=>?_⟩
 · have e:dsD (ds.take m++x :: ds.drop m)=(dsD ds).take m++x.d :: (dsD ds).drop m:=by
    unfold dsD
    rw [List.map_append,List.map_cons,List.map_take,List.map_drop]
   rw [e]
   refine wfT_ins h.wf hx.ix1 (findD_none.2 fun y hy=>?_) ?_
   · obtain ⟨z,hz,rfl⟩:=List.mem_map.1 hy
     unfold findX at hn
     rw [List.find?_eq_none] at hn
     have:=hn z hz
     show z.ix≠x.ix
     simpa using this
   · rcases hp with e | ⟨y,hy,e⟩
     · exact Or.inl e
     · refine Or.inr ⟨y.d,?_,e⟩
       show y.d∈(dsD ds).take m
       unfold dsD
       rw [←List.map_take]
       exact List.mem_map.2 ⟨y,hy,rfl⟩
 · rcases mem_insert hd with rfl | hd
   · exact hx.y h.dv hk
   · exact (h.dv d hd).mono (by omega)
structure TrS (w0:World) (b n p d:Nat) (K:Int) (w:World) (R B:Nat) (A:Option Addr) (c:Nat) (ds:List Dv) (W:World):Prop where
 nx:TNx w0 b n p d w W
 bx:W.heap[B]? = some (.cells #[.slice A ds.length c] treeT (0,0))
 rs:W.heap[R]? = some (.cells #[.slice none 0 0] treeT (0,0))
 tr:TrN W A ds
 fr:From (B+1) A
 fi:∀ x∈ds,From (B+1) x.ats.A
 cp:ds.length≤c
 tw:TrW K ds
 lB:w.heap.size≤B
 lR:w.heap.size≤R
 ne:R<B
 lo:w0.heap.size≤w.heap.size
section
variable {w0 w W W1:World} {b n p d d' R B:Nat} {K:Int} {A:Option Addr} {c:Nat} {ds:List Dv}
theorem TrS.bne (h:TrS w0 b n p d K w R B A c ds W):b<w.heap.size:=by have:=h.nx.st.lt;have:=h.lo;omega
theorem TrS.off (h:TrS w0 b n p d K w R B A c ds W):b<R:=by have:=h.bne;have:=h.lR;omega
theorem TrS.go (h:TrS w0 b n p d K w R B A c ds W) (hT:TNx w0 b n p d' W W1):TrS w0 b n p d' K w R B A c ds W1:=by
 have h1:=h.off
 have h2:=h.ne
 exact ⟨h.nx.trans hT,hT.blk h.bx (by omega),hT.blk h.rs (by omega),h.tr.grown hT.gr (fun a ha=>by have:=h.fr a ha;omega) (fun x hx a ha=>by have:=h.fi x hx a ha;omega),h.fr,h.fi,h.cp,h.tw,h.lB,h.lR,h.ne,h.lo⟩
theorem TrS.up {K':Int} (h:TrS w0 b n p d K w R B A c ds W) (hk:K≤K'):TrS w0 b n p d K' w R B A c ds W:=⟨h.nx,h.bx,h.rs,h.tr,h.fr,h.fi,h.cp,⟨h.tw.wf,fun x hx=>(h.tw.dv x hx).mono hk⟩,h.lB,h.lR,h.ne,h.lo⟩
structure NewI (K:Int) (ds:List Dv) (B q:Nat) (A':Option Addr) (n' c':Nat) (W:World):Prop where
 ex:∃ x m,n'=(ds.take m++x :: ds.drop m).length∧DvX K ds x∧From (B+1) x.ats.A∧DvN W x∧RowN W A' 10 n' (cellsOf encDv (ds.take m++x :: ds.drop m))∧From (B+1) A'∧n'≤c'∧ds.length<256∧findX ds x.ix=none∧(x.pa=0∨∃ y∈ds.take m,y.ix=x.pa)∧(∀ a,x.ats.A=some a→a.block≠q)∧∀ a,A'=some a→a.block≠q
theorem NewI.keep {A':Option Addr} {n' c' q:Nat} (h:NewI K ds B q A' n' c' W) (hb:Below W.heap.size W W1):NewI K ds B q A' n' c' W1:=by
 obtain ⟨x,m,h1,h2,h3,h4,h5,h6⟩:=h.ex
 exact ⟨x,m,h1,h2,h3,h4.keep hb,h5.keep hb,h6⟩
theorem TrS.ins {A':Option Addr} {n' c' q:Nat} (h:TrS w0 b n p d K w R B A c ds W) (hk:0≤K) (h1:NewI K ds B q A' n' c' W):∃ ds',n'=ds'.length∧ds'.length=ds.length+1∧TrS w0 b n p d (K+1) w R B A' c' ds' (W.setCell ⟨B,0,none⟩ (.slice A' n' c')):=by
 obtain ⟨x,m,e,hx,hfx,hdx,hrow,hfA,hc,hl,hno,hpa,_⟩:=h1.ex
 have hne:=h.ne
 have hlB:=h.lB
 have hlo:=h.lo
 have hg:=grown_set W B 0 (.slice A' n' c')
 have hlen:(ds.take m++x :: ds.drop m).length=ds.length+1:=by
  rw [List.length_append,List.length_cons,←Nat.add_assoc,←List.length_append,List.take_append_drop]
 refine ⟨ds.take m++x :: ds.drop m,e,hlen,⟨h.nx.setCellR hlB hlo,?_,?_,?_,hfA,fun y hy=>?_,by omega,h.tw.ins hx hk hno hpa,hlB,h.lR,hne,hlo⟩⟩
 · rw [heap_setCell_same _ _ _ _ _ _ h.bx,e];rfl
 · exact (heap_setCell_other W ⟨B,0,none⟩ _ _ (by show R≠B;omega)).trans h.rs
 · refine ⟨?_,fun y hy=>?_,by omega,fun y hy=>?_⟩
   · rw [←e]
     exact hrow.grown hg (fun a ha k=>by have:=hfA a ha;have:=Option.some.inj k;omega)
   · rcases mem_insert hy with rfl | hy
     · exact RowN.grown hdx hg (fun a ha k=>by have:=hfx a ha;have:=Option.some.inj k;omega)
     · exact RowN.grown (h.tr.inn y hy) hg (fun a ha k=>by have:=h.fi y hy a ha;have:=Option.some.inj k;omega)
   · rcases mem_insert hy with rfl | hy
     · have:=hx.len;omega
     · exact h.tr.al y hy
 · rcases mem_insert hy with rfl | hy
   · exact hfx
   · exact h.fi y hy
theorem NewI.box {A':Option Addr} {n' c' q:Nat} {v:Value} (h:NewI K ds B q A' n' c' W):NewI K ds B q A' n' c' (W.setCell ⟨q,0,none⟩ v):=by
 obtain ⟨x,m,h1,h2,h3,h4,h5,h6,h7,h8,h9,h10,h11,h12⟩:=h.ex
 have hg:=grown_set W q 0 v
 exact ⟨x,m,h1,h2,h3,RowN.grown h4 hg (fun a ha k=>h11 a ha (Option.some.inj k)),h5.grown hg (fun a ha k=>h12 a ha (Option.some.inj k)),h6,h7,h8,h9,h10,h11,h12⟩
theorem newI_of {A':Option Addr} {n' c' q Lo:Nat} {z:Int} {x:Dv} (hz:z=0→n'≤c'∧From Lo A'∧∃ m,n'=(ds.take m++x :: ds.drop m).length∧RowN W A' 10 n' (cellsOf encDv (ds.take m++x :: ds.drop m))∧ds.length<256∧findX ds x.ix=none∧(x.pa=0∨∃ y∈ds.take m,y.ix=x.pa))
 (hX:DvX K ds x) (hD:DvN W x) (hf:From (B+1) x.ats.A) (hL:B+1≤Lo) (hq:∀ a,x.ats.A=some a→a.block≠q) (hA:z=0→∀ a,A'=some a→a.block<W.heap.size→a.block≠q):z=0→NewI K ds B q A' n' c' W:=fun e=>by
 obtain ⟨h1,h2,m,h3,h4,h5,h6,h7⟩:=hz e
 exact ⟨x,m,h3,hX,hf,hD,h4,From.mono h2 hL,h1,h5,h6,h7,hq,fun a ha=>hA e a ha (h4.pl a ha).2⟩
end
def SomeTr (m:Nat) (w0:World) (b n p d:Nat) (w:World) (e:Ending) (w':World):Prop:=∃ A c ds,e=.returned (trV A ds c)∧TrN w' A ds∧From w.heap.size A∧(∀ x∈ds,From w.heap.size x.ats.A)∧ds.length≤c∧ds.length≤m∧TrW m ds∧TNx w0 b n p d w w'
set_option maxHeartbeats 8000000 in
theorem Tree_any {w0 w:World} {b n p d:Nat} (h:TSt w0 b n p d w) (hE:Env0 w) (hb:nG≤b) (m:Nat) (hm:m≤20) (h3:p+d≤70000) :
 Calls Tryz.prog 17 #[.pointer (some ⟨b,0,none⟩),.int .i64 m] w (SomeTr m w0 b n p (d+2000) w):=by
 have hlb:=h.lt
 have hws:=h.size
 have HE:=Lib.hid hE
 obtain ⟨w1,hw1⟩:∃ w1,(w.alloc (.cells #[.slice none 0 0] treeT)).alloc (.cells #[.slice none 0 0] treeT)=w1:=⟨_,rfl⟩
 have hb1:Below w.heap.size w w1:=by rw [←hw1];exact bAl (below_alloc _ _)
 have hr1:w1.heap[w.heap.size]? = some (.cells #[.slice none 0 0] treeT (0,0)):=by rw [←hw1];exact ((below_alloc _ _).block _ (by simp)).trans (heap_alloc_new _ _)
 have hx1:w1.heap[w.heap.size+1]? = some (.cells #[.slice none 0 0] treeT (0,0)):=by
  rw [←hw1]
  have:=heap_alloc_new (w.alloc (.cells #[.slice none 0 0] treeT)) (.cells #[.slice none 0 0] treeT)
  simpa using this
 have HS1:Hid (TrS w0 b n p d 0 w w.heap.size (w.heap.size+1) none 0 [] w1):=Lib.hid ⟨(TNx.refl h).belowW hb1,hx1,hr1,⟨RowN.nil,(fun d hd=>by cases hd),Nat.zero_le _,(fun d hd=>by cases hd)⟩,(fun a e=>by cases e),(fun d hd=>by cases hd),Nat.le_refl _,TrW.nil,Nat.le_succ _,Nat.le_refl _,Nat.lt_succ_self _,hws⟩
 have HW1:=Lib.hid hw1
 have hRB:w.heap.size≠w.heap.size+1:=by omega
 clear hE h hb1 hr1 hx1 hw1
 unfold SomeTr
 go_enter Tryz.func17,Tryz.ntmps17
 go_upto_region 2 with fail
 rw [HW1.out]
 go_wp2_with fail
 (with_reducible refine (Next_t (n:=n) (p:=p) _ HS1.out.nx.st (by omega) (by omega) (by omega)).mono ?_)
 rintro e w2 ⟨r,r0,r1,rfl,hT⟩
 obtain ⟨rn,rfl⟩:=Int.eq_ofNat_of_zero_le r0
 have hrn:rn≤m:=by omega
 have HS2:=Lib.hid (HS1.out.go hT)
 clear hT r0 r1
 go_wp2_with fail
 go_loopg [6] (m+1) (fun gk s6 wr=>∃ (k:Nat) (A:Option Addr) (c:Nat) (ds:List Dv) (D:Nat),s6=.int .i64 k∧k+1≤gk∧k≤m∧ds.length+k≤m∧D+51*k≤d+1+51*m∧Hid (TrS w0 b n p D ((m - k:Nat):Int) w w.heap.size (w.heap.size+1) A c ds wr))
 case atStart=>exact ⟨rn,none,0,[],d+1,rfl,by omega,hrn,by simpa using hrn,by omega,Lib.hid (HS2.out.up (by omega))⟩
 case round =>
 obtain ⟨k,A,c,ds,D,rfl,hkg,hkm,hlk,hD,HS⟩:=hrel
 have c5:=cellOf (j:=0) HS.out.bx rfl
 by_cases hk:0<k
 · have hkI : (0:Int)<(k:Int):=by omega
   obtain ⟨N,hN⟩:∃ N,ds.length=N:=⟨_,rfl⟩
   have HN:=Lib.hid hN
   have HDv:Hid (∀ W:World,Below wr.heap.size wr W→Calls Tryz.prog 42 #[.pointer (some ⟨b,0,none⟩),.agg #[.slice A N c]] W (SomeDv ((m - k:Nat):Int) ds w0 b n p (D+50) W)):=Lib.hid fun W hW=>by
    have q:=Device_any (HS.out.nx.st.below hW) (by omega) A c ds ((m - k:Nat):Int) (HS.out.tr.keep hW) (From.mono HS.out.fr (by have:=HS.out.lB;omega)) (by omega) (by omega) (fun x hx=>⟨(HS.out.tw.dv x hx).ix1,(HS.out.tw.dv x hx).ix2⟩)
    unfold trV at q
    rw [hN] at q
    exact q
   have HIn:Hid (∀ (x:Dv) (W:World),TrN W A ds→Env0 W→DvN W x→DvX ((m - k:Nat):Int) ds x→Calls Tryz.prog 41 #[.agg #[.slice A N c],dvV x] W (RInsP ds x W)):=Lib.hid fun x W hW hE hx hX=>by
    have q:=RIns_any A c ds x W hE hW HS.out.cp hx hX.w (fun y hy=>by have:=(HS.out.tw.dv y hy).og;omega)
    unfold trV at q
    rw [hN] at q
    exact q
   have HEr:=Lib.hid (HE.out.nxW HS.out.nx hb)
   rw [hN] at c5 hlk
   clear hN
   go_upto_region 5 with fail
   go_cut [7,8] from 17 to 24 (fun s7 s8 wx=>∃ (q:Nat) (A':Option Addr) (n' c':Nat) (z:Int),s7=.pointer (some ⟨q,0,none⟩)∧s8=.int .i64 z∧Hid (wx.heap[q]? = some (.cells #[.slice A' n' c'] treeT (0,0)))∧Hid (TrS w0 b n p (D+50) ((m - k:Nat):Int) w w.heap.size (w.heap.size+1) A c ds wx)∧Hid (w.heap.size+1<q)∧Hid (z=0→NewI ((m - k:Nat):Int) ds (w.heap.size+1) q A' n' c' wx))
   case first =>
    have HSa:Hid (∀ W:World,Below wr.heap.size wr W→W.cell? ⟨w.heap.size+1,0,none⟩=some (.slice A N c)):=Lib.hid fun W hW=>by
     have:=cellOf (j:=0) ((hW.block _ (blk_lt' HS.out.bx)).trans HS.out.bx) rfl
     rw [HN.out] at this
     exact this
    clear c5
    have hBl:w.heap.size+1<wr.heap.size:=blk_lt' HS.out.bx
    have hwb:wr.heap.size≠b:=by have:=HS.out.off;have:=blk_lt' HS.out.bx;omega
    go_region_held3 (fun W'=>W'.cell? ⟨w.heap.size+1,0,none⟩=some (.slice A N c)) (first | exact HSa.out _ (by first | exact bDr (Below.refl _ _) | exact bAl (bDr (Below.refl _ _))) | exact HSb.out _ (by first | exact Below.refl _ _ | exact below_alloc _ _ | exact HB3.out | exact bAl HB3.out) | exact HSs.out _ _ _ HB3.out (Nat.ne_of_lt hBl) | exact HSs.out _ _ _ HB3.out (by have:=HTd.out.gr.size;omega)) ((first
     | (go_at_call 42
        first
        | (refine (HDv.out _ (bDr (Below.refl _ _))).mono ?_
           rintro e w2 ⟨x,hx,rfl,hDN,hT,hFx⟩
           have HX:=Lib.hid hx
           have HDN:=Lib.hid hDN
           have HTd:=Lib.hid (TNx.of_below hT (bDr (Below.refl wr.heap.size wr)))
           have HFx:=Lib.hid hFx
           have HSb:Hid (∀ W:World,Below w2.heap.size w2 W→W.cell? ⟨w.heap.size+1,0,none⟩=some (.slice A N c)):=Lib.hid fun W hW=>by
            have hbx:=(HS.out.go HTd.out).bx
            have:=cellOf (j:=0) ((hW.block _ (blk_lt' hbx)).trans hbx) rfl
            rw [HN.out] at this
            exact this
           have HSs:Hid (∀ (W:World) (q:Nat) (v:Value),Below w2.heap.size w2 W→w.heap.size+1≠q→(W.setCell ⟨q,0,none⟩ v).cell? ⟨w.heap.size+1,0,none⟩=some (.slice A N c)):=Lib.hid fun W q v hW hq=>by
            have hbx:=(HS.out.go HTd.out).bx
            have:=cellOf (j:=0) ((heap_setCell_other W ⟨q,0,none⟩ _ v hq).trans ((hW.block _ (blk_lt' hbx)).trans hbx)) rfl
            rw [HN.out] at this
            exact this
           clear hx hDN hT hFx)
        | (refine (HDv.out _ (bAl (bDr (Below.refl _ _)))).mono ?_
           rintro e w2 ⟨x,hx,rfl,hDN,hT,hFx⟩
           have HX:=Lib.hid hx
           have HDN:=Lib.hid hDN
           have HTd:=Lib.hid (TNx.of_below hT (bAl (bDr (Below.refl wr.heap.size wr))))
           have HFx:=Lib.hid hFx
           have HSb:Hid (∀ W:World,Below w2.heap.size w2 W→W.cell? ⟨w.heap.size+1,0,none⟩=some (.slice A N c)):=Lib.hid fun W hW=>by
            have hbx:=(HS.out.go HTd.out).bx
            have:=cellOf (j:=0) ((hW.block _ (blk_lt' hbx)).trans hbx) rfl
            rw [HN.out] at this
            exact this
           have HSs:Hid (∀ (W:World) (q:Nat) (v:Value),Below w2.heap.size w2 W→w.heap.size+1≠q→(W.setCell ⟨q,0,none⟩ v).cell? ⟨w.heap.size+1,0,none⟩=some (.slice A N c)):=Lib.hid fun W q v hW hq=>by
            have hbx:=(HS.out.go HTd.out).bx
            have:=cellOf (j:=0) ((heap_setCell_other W ⟨q,0,none⟩ _ v hq).trans ((hW.block _ (blk_lt' hbx)).trans hbx)) rfl
            rw [HN.out] at this
            exact this
           have HQ1:=Lib.hid (hT.blk (heap_alloc_new wr.drew (.cells #[.slice none 0 0] treeT)) (show wr.drew.heap.size≠b from hwb))
           clear hx hDN hT hFx))
     | (go_at_call 41
        first
        | (refine (HIn.out x _ (HS.out.go HTd.out).tr (HEr.out.nxW HTd.out hb) HDN.out HX.out).mono ?_
           rintro e w3 ⟨A',n',c',z,rfl,hb3,hz⟩
           have HB3:=Lib.hid (hb3:Below w2.heap.size w2 w3)
           have HZ:=Lib.hid hz
           first
            | (have HQ3:Hid (w3.heap[wr.heap.size]? = some (.cells #[.slice none 0 0] treeT (0,0))):=Lib.hid ((hb3.block _ (blk_lt' HQ1.out)).trans HQ1.out)
               have t3:w3.cell? ⟨wr.heap.size,0,none⟩=some (.slice none 0 0):=cellOf (j:=0) HQ3.out rfl
               have f3:w3.frozen? ⟨wr.heap.size,0,none⟩=false:=frozen_of_row _ _ _ _ _ HQ3.out)
            | skip
           clear hb3 hz)
        | (refine (HIn.out x _ ((HS.out.go HTd.out).tr.keep (below_alloc _ _)) ((HEr.out.nxW HTd.out hb).go (below_alloc _ _)) (RowN.keep HDN.out (below_alloc _ _)) HX.out).mono ?_
           rintro e w3 ⟨A',n',c',z,rfl,hb3,hz⟩
           have HB3:=Lib.hid (bt (below_alloc _ _) hb3:Below w2.heap.size w2 w3)
           have HZ:=Lib.hid hz
           have HQ4:=Lib.hid ((hb3.block _ (by simp)).trans (heap_alloc_new w2 (.cells #[.slice none 0 0] treeT)))
           have t3:w3.cell? ⟨w2.heap.size,0,none⟩=some (.slice none 0 0):=cellOf (j:=0) HQ4.out rfl
           have f3:w3.frozen? ⟨w2.heap.size,0,none⟩=false:=frozen_of_row _ _ _ _ _ HQ4.out
           clear hb3 hz))))
    all_goals
     have hx0:wr.heap.size≤w2.heap.size:=HTd.out.gr.size
     have hx1:w2.heap.size≤w3.heap.size:=HB3.out.size
     have hT3:=HTd.out.belowW HB3.out
     have hD3:=RowN.keep HDN.out HB3.out
     have hB:w.heap.size+1<wr.heap.size:=blk_lt' HS.out.bx
     have hlo:=HS.out.lo
     have hwr:=HS.out.nx.gr.size
     go_wp2
     go_meet
    · have h1:∀ a,x.ats.A=some a→wr.heap.size≤a.block:=fun a ha=>HFx.out a ha
      exact ⟨_,A',n',c',z,rfl,rfl,Lib.hid (heap_alloc_new w3 _),Lib.hid (HS.out.go (hT3.belowW (below_alloc _ _))),Lib.hid (by omega),Lib.hid (fun e=>(newI_of (q:=w3.heap.size) HZ.out HX.out hD3 (fun a ha=>by have:=h1 a ha;omega) (by omega) (fun a ha=>by have:=(HDN.out.pl a ha).2;omega) (fun e a ha hl=>by omega) e).keep (below_alloc _ _))⟩
    · have h1:∀ a,x.ats.A=some a→wr.heap.size≤a.block:=fun a ha=>HFx.out a ha
      have h2:z=0→∀ a,A'=some a→w2.heap.size+1≤a.block:=fun e a ha=>by simpa using (HZ.out e).2.1 a ha
      exact ⟨_,A',n',c',z,rfl,rfl,Lib.hid (by rw [heap_setCell_same _ _ _ _ _ _ HQ4.out];rfl),Lib.hid (HS.out.go (hT3.setCellR (by omega) (by omega))),Lib.hid (by omega),Lib.hid (fun e=>(newI_of (q:=w2.heap.size) HZ.out HX.out hD3 (fun a ha=>by have:=h1 a ha;omega) (by simp;omega) (fun a ha=>by have:=(HDN.out.pl a ha).2;omega) (fun e a ha _=>by have:=h2 e a ha;omega) e).box)⟩
    · have h1:∀ a,x.ats.A=some a→wr.heap.size+1≤a.block:=fun a ha=>by simpa using HFx.out a ha
      have h2:wr.heap.size<w2.heap.size:=blk_lt' HQ1.out
      exact ⟨_,A',n',c',z,rfl,rfl,Lib.hid (by rw [heap_setCell_same _ _ _ _ _ _ HQ3.out];rfl),Lib.hid (HS.out.go (hT3.setCellR (Nat.le_refl _) (by omega))),Lib.hid hBl,Lib.hid (fun e=>(newI_of (q:=wr.heap.size) HZ.out HX.out hD3 (fun a ha=>by have:=h1 a ha;omega) (by omega) (fun a ha=>by have:=h1 a ha;omega) (fun e a ha _=>by have:=(HZ.out e).2.1 a ha;omega) e).box)⟩
   case rest =>
    obtain ⟨q,A',n',c',z,rfl,rfl,HQ,HSx,Hq,HNw⟩:=hcut
    have hqB:=Hq.out
    have hn:=HN.out
    have t7:=cellOf (j:=0) HQ.out rfl
    have t5:=cellOf (j:=0) HSx.out.bx rfl
    have f5:wc.frozen? ⟨w.heap.size+1,0,none⟩=false:=frozen_of_row _ _ _ _ _ HSx.out.bx
    by_cases hz:z=0
    · subst hz
      obtain ⟨ds',hn',hl',hS'⟩:=HSx.out.ins (by omega) (HNw.out rfl)
      have HS':=Lib.hid (hS'.up (show ((m - k:Nat):Int)+1≤((m - (k - 1):Nat):Int) by omega))
      have hd':ds'.length+(k - 1)≤m:=by omega
      clear hS' hn' hl' hn
      go_wp2
      go_roundg (gk - 1)
      case measure=>omega
      case rel=>exact ⟨k - 1,A',c',ds',D+50,by go_num,by omega,by omega,by omega,by omega,HS'⟩
    · have hd':ds.length+(k - 1)≤m:=by omega
      clear hn
      go_wp2
      go_roundg (gk - 1)
      case measure=>omega
      case rel=>exact ⟨k - 1,A,c,ds,D+50,by go_num,by omega,by omega,by omega,by omega,Lib.hid (HSx.out.up (by omega))⟩
 · obtain rfl:k=0:=by omega
   have hkI:¬ (0:Int)<((0:Nat):Int):=by omega
   have c4:=cellOf (j:=0) HS.out.rs rfl
   have f4:wr.frozen? ⟨w.heap.size,0,none⟩=false:=frozen_of_row _ _ _ _ _ HS.out.rs
   go_wp2
   have HR9:Hid (∀ v,(wr.setCell ⟨w.heap.size,0,none⟩ v).heap[w.heap.size]? = some (.cells #[v] treeT (0,0))):=Lib.hid fun v=>heap_setCell_same _ _ _ _ _ _ HS.out.rs
   refine post_cr1 rfl (by rfl) (HR9.out _) Tryz.underlying30 rfl (by exact treeSizeX) (by rfl) ?_
   have hg:=grown_set wr w.heap.size 0 (.slice A ds.length c)
   refine ⟨A,c,ds,rfl,HS.out.tr.grown hg (fun a ha=>?_) (fun x hx a ha=>?_),fun a ha=>?_,fun x hx a ha=>?_,HS.out.cp,by omega,⟨HS.out.tw.wf,fun x hx=>(HS.out.tw.dv x hx).mono (by omega)⟩,(HS.out.nx.setCellR (Nat.le_refl _) HS.out.lo).more (by omega)⟩
   · have:=HS.out.fr a ha;omega
   · have:=HS.out.fi x hx a ha;omega
   · have:=HS.out.fr a ha;omega
   · have:=HS.out.fi x hx a ha;omega
end Go.Proofs.YtobcmlmbblgcdaaGreatDoor

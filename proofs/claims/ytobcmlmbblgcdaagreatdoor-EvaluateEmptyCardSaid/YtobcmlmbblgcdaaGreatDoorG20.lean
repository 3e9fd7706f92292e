/-
  The reference's index and Find of devices; one element behind a row.
  The reference's Chain of devices.
-/
import Derived.Test.YtobcmlmbblgcdaaGreatDoorG13
import Derived.Test.YtobcmlmbblgcdaaGreatDoorG00
import Derived.Test.YtobcmlmbblgcdaaGreatDoorG18
namespace Go.Proofs.YtobcmlmbblgcdaaGreatDoor
set_option maxRecDepth 100000
section
open Go.RowKit
theorem app_gen {α:Type} {S T:TypeId} {k b:Nat} {z:Value} {enc:α→List Value} (hu:Tryz.prog.underlying S=some (.slice T)) (hi:(Tryz.prog.info? T).map (fun i=>(i.zero,i.size,i.bytes))=some (some z,k,b)) (hzc:z.cells.size=k) (hk:0<k) (hb:b≤1000) (henc:∀ x:α,(enc x).length=k) (hone:∀ x:α,∀ u∈enc x,u.oneCell'=true)
 {B:Nat} {A:Option Addr} {c:Nat} {l:List α} (t:α) (w:World) (h:w.ownsRow B T k (.slice A l.length c) l.length (cellsOf enc l)) (hl:l.length≤1000000) (hB:B≤w.heap.size) :
 ∃ A' c' w',(apG #[S,S] S #[.slice A l.length c,.slice (some ⟨w.heap.size,0,none⟩) 1 1]).run Tryz.prog (w.alloc (.cells (enc t).toArray T))=.ok (.slice A' (l.length+1) c') w'∧w'.ownsRow B T k (.slice A' (l.length+1) c') (l.length+1) (cellsOf enc (l++[t]))∧w.grownBy w' (Value.slice A l.length c).ownBlock∧∀ p,A'=some p→w.heap.size≤p.block∨∃ q,A=some q∧q.block=p.block:=by
 obtain ⟨i0,hi0,hz0,hz1,hz2⟩:=info_parts hi
 obtain ⟨v',w',h1,h2,h3,_,h5⟩:=run_append_own_at (P:=Tryz.prog) (w.alloc (.cells (enc t).toArray T)) B S S T i0 _ k b hu hi0 hz0 hz1 hz2 hzc hk (.slice A l.length c) l.length _ (own_below2 h (below_alloc _ _)) ⟨w.heap.size,0,none⟩ 1 1 (enc t) (by rw [henc];omega) (fun j u hu=>by
  rw [add_at,Nat.zero_add]
  exact cellOf (heap_alloc_new w _) (by rw [←hu,←Array.getElem?_toList])) (hone t) (by unfold maxLen;omega) (by have:=Nat.mul_le_mul (show l.length+1≤1000001 by omega) hb;omega) (Nat.le_trans hB (below_alloc w _).size)
 rw [ap_g] at h1
 obtain ⟨NA,nc,rfl⟩:=own_slice h2
 have hc:cellsOf enc (l++[t])=cellsOf enc l++enc t:=by rw [cellsOf_append];simp [cellsOf]
 refine ⟨NA,nc,w',h1,by rw [hc];exact h2,(grown_below (below_alloc w _) _).trans h3,fun p hp=>?_⟩
 have hpb:(Value.slice NA (l.length+1) nc).ownBlock=some p.block:=by rw [hp];rfl
 rcases h5 with k | k
 · rw [hpb] at k
   obtain ⟨q,e1,e2⟩:=slice_own k.symm
   exact Or.inr ⟨q,e1,e2⟩
 · rw [hpb] at k
   have:=Option.some.inj k
   have:=(below_alloc w (.cells (enc t).toArray T)).size
   exact Or.inl (by omega)
theorem devInfoX:(Tryz.prog.info? devT).map (fun i=>(i.zero,i.size,i.bytes))=some (some (.agg #[.int .i64 0,.int .i64 0,.string ⟨#[]⟩,.string ⟨#[]⟩,.string ⟨#[]⟩,.string ⟨#[]⟩,.string ⟨#[]⟩,.int .i64 0,.int .i64 0,.slice none 0 0]),10,136):=by kernel_rfl
theorem encDv_one (d:Dv):∀ u∈encDv d,u.oneCell'=true:=by
 intro u hu
 simp only [encDv,List.mem_cons,List.not_mem_nil,or_false] at hu
 rcases hu with rfl | rfl | rfl | rfl | rfl | rfl | rfl | rfl | rfl | rfl <;> rfl
theorem TrN.dcell {w:World} {A:Option Addr} {ds:List Dv} (h:TrN w A ds) {k:Nat} (hk:k<ds.length):∃ ba off,A=some ⟨ba,off,none⟩∧ba<w.heap.size∧∀ i v,(encDv ds[k])[i]? = some v→w.cell? ⟨ba,off+k*10+i,none⟩=some v:=by
 obtain ⟨b,off,e,hb,hc⟩:=h.row.row.cell encDv_len (by omega)
 refine ⟨b,off,e,hb,fun i v hv=>?_⟩
 rw [Nat.add_assoc]
 exact hc k ds[k] (List.getElem?_eq_getElem hk) i v hv
def findX (ds:List Dv) (n:Int):Option Dv:=ds.find? fun d=>d.ix == n
theorem findX_idx (ds:List Dv) (n:Int):(∃ k,∃ hk:k<ds.length,idxA (fun d:Dv=>d.ix == n) ds=k∧findX ds n=some ds[k])∨(idxA (fun d:Dv=>d.ix == n) ds = -1∧findX ds n=none):=by
 unfold idxA findX
 cases hf:ds.findIdx? (fun d=>d.ix == n) with
 | none =>
   right
   refine ⟨rfl,?_⟩
   rw [List.find?_eq_none]
   intro x hx
   rw [List.findIdx?_eq_none_iff] at hf
   simpa using hf x hx
 | some k =>
   left
   obtain ⟨hk,h1,h2⟩:=List.findIdx?_eq_some_iff_getElem.1 hf
   refine ⟨k,hk,rfl,?_⟩
   rw [List.find?_eq_some_iff_getElem]
   exact ⟨h1,k,hk,rfl,fun j hj=>by simpa using h2 j hj⟩
set_option maxHeartbeats 1000000 in
theorem RIndex_any (A:Option Addr) (c:Nat) (ds:List Dv) (n:Int) (w:World) (h:TrN w A ds) :
 Calls Tryz.prog 43 #[.slice A ds.length c,.int .i64 n] w fun e w'=>e=.returned (.int .i64 (idxA (fun d:Dv=>d.ix == n) ds))∧w'=w:=by
 have H:=Lib.hid h
 have hlen:=h.len
 clear h
 obtain ⟨N,hN⟩:∃ N,ds.length=N:=⟨_,rfl⟩
 have HN:=Lib.hid hN
 rw [hN] at hlen ⊢
 clear hN
 go_enter Tryz.func43,Tryz.ntmps43
 go_wp2
 go_loopg [5] (N+1) (fun gk s5 wr=>∃ k:Nat,s5=.int .i64 k∧k+gk=N+1∧k≤N∧Hid (∀ j (h:j<ds.length),j<k→(ds[j].ix == n)=false)∧wr=w)
 case atStart=>exact ⟨0,rfl,by omega,Nat.zero_le _,Lib.hid (fun j _ h=>absurd h (Nat.not_lt_zero _)),rfl⟩
 case round =>
  obtain ⟨k,rfl,hkg,hkN,hno,rfl⟩:=hrel
  by_cases hlt:k<N
  · have hk':k<ds.length:=by rw [HN.out];exact hlt
    obtain ⟨ba,off,rfl,hba,hc⟩:=H.out.dcell hk'
    have c0:=hc 0 _ rfl
    rw [Nat.add_zero] at c0
    have hltI:(k:Int)<(N:Int):=by omega
    cases hq:(ds[k].ix == n) with
    | true =>
      have HV:=Lib.hid (idxA_hit (q:=fun d:Dv=>d.ix == n) hno.out hk' hq)
      generalize ds[k].ix=dx at *
      clear hc
      go_wp2
      go_ret
      rw [HV.out]
      exact ⟨rfl,rfl⟩
    | false =>
      have HA:Hid (∀ j (h:j<ds.length),j<k+1→(ds[j].ix == n)=false):=Lib.hid fun j h hj=>by
       rcases Nat.lt_or_ge j k with h1 | h1
       · exact hno.out j h h1
       · obtain rfl:j=k:=by omega
         exact hq
      generalize ds[k].ix=dx at *
      clear hc
      go_wp2
      go_roundg (gk - 1)
      case measure=>omega
      case rel=>exact ⟨k+1,by go_num,by omega,by omega,HA,rfl⟩
  · obtain rfl:k=N:=by omega
    have HV:=Lib.hid (idxA_miss (l:=ds) (q:=fun d:Dv=>d.ix == n) fun j h=>hno.out j h (by rw [←HN.out];exact h))
    go_wp2
    go_ret
    rw [HV.out]
    exact ⟨rfl,rfl⟩
def RFindP (o:Option Dv) (w:World) (e:Ending) (w':World):Prop:=e=.returned (.tuple #[dvV (o.getD dv0),.bool o.isSome])∧Below w.heap.size w w'
theorem ld_devW (v:Value):Instr.loadAt devT v=ldG devT v:=by unfold ldG;rfl
theorem st_devW (v u:Value):Instr.storeAt devT v u=stG devT v u:=by unfold stG;rfl
theorem bu_devW (parts:Array (Nat × Value)):Instr.build devT parts=buG devT parts:=by unfold buG;rfl
theorem dev0_build (W:World):(buG devT #[]).run Tryz.prog W=.ok (.agg (dvA dv0)) W:=by
 unfold buG
 exact run_build W _ _ _ (by kernel_rfl)
theorem ldDev_row {w:World} {A:Option Addr} {ds:List Dv} (h:TrN w A ds) {k:Nat} (hk:k<ds.length) {ba off:Nat} (hA:A=some ⟨ba,off,none⟩):(ldG devT (.pointer (some ⟨ba,off+k*10,none⟩))).run Tryz.prog w=.ok (.agg (dvA ds[k])) w:=by
 obtain ⟨b,o,e,_,hc⟩:=h.dcell hk
 rw [hA] at e
 injection e with e
 injection e with e1 e2
 subst e1 e2
 exact ldG_row (P:=Tryz.prog) (w:=w) (T:=devT) (n:=10) (g:=ba) (o:=off+k*10) (l:=encDv ds[k]) (by exact Tryz.isAgg67) (by exact Tryz.sizeOf67) rfl (fun j u hu=>hc j u hu)
theorem stDev_at {w:World} {q:Nat} {cs:Array Value} (h:w.heap[q]? = some (.cells cs devT (0,0))) (hs:cs.size=10) (d:Dv):(stG devT (.pointer (some ⟨q,0,none⟩)) (.agg (dvA d))).run Tryz.prog w=.ok () (w.setRow q (dvA d)):=by
 have h1:=stG_at (P:=Tryz.prog) (w:=w) (T:=devT) (g:=q) (o:=0) (cs:=cs) (vs:=dvA d) h (by rw [hs];show 0+10≤10;omega) (by show 0<10;omega) (by exact devSize) (dvA_one d)
 rw [setAll_whole cs (dvA d) (by rw [hs];rfl)] at h1
 exact h1
attribute [local go_sem ↓] ld_devW st_devW bu_devW
set_option maxHeartbeats 1000000 in
theorem RFindD_any (A:Option Addr) (c:Nat) (ds:List Dv) (n:Int) (w:World) (h:TrN w A ds) :
 Calls Tryz.prog 20 #[trV A ds c,.int .i64 n] w (RFindP (findX ds n) w):=by
 obtain ⟨w1,hw1⟩:∃ w1,(w.alloc (.cells #[.slice A ds.length c] 30)).alloc (.cells (dvA dv0) devT)=w1:=⟨_,rfl⟩
 have hb1:Below w.heap.size w w1:=by rw [←hw1];exact bAl (below_alloc _ _)
 have hr1:w1.heap[w.heap.size]? = some (.cells #[.slice A ds.length c] 30 (0,0)):=by rw [←hw1];exact ((below_alloc _ _).block _ (by simp)).trans (heap_alloc_new _ _)
 have hq1:w1.heap[w.heap.size+1]? = some (.cells (dvA dv0) devT (0,0)):=by
  rw [←hw1]
  have:=heap_alloc_new (w.alloc (.cells #[.slice A ds.length c] 30)) (.cells (dvA dv0) devT)
  simpa using this
 have hI:=RIndex_any A c ds n w1 (h.keep hb1)
 have c0:=cellOf (j:=0) hr1 rfl
 have hd0:dvA dv0=#[.int .i64 0,.int .i64 0,.string ⟨#[]⟩,.string ⟨#[]⟩,.string ⟨#[]⟩,.string ⟨#[]⟩,.string ⟨#[]⟩,.int .i64 0,.int .i64 0,.slice none 0 0]:=rfl
 unfold trV
 rcases findX_idx ds n with ⟨k,hk,e1,e2⟩ | ⟨e1,e2⟩
 · rw [e1] at hI
   obtain ⟨ba,off,rfl,_,_⟩:=h.dcell hk
   have hld:=ldDev_row (h.keep hb1) hk rfl
   have hst:=stDev_at hq1 rfl ds[k]
   have HI:=Lib.hid hI
   have HX:=Lib.hid e2
   have HB1:=Lib.hid hb1
   have HQ1:=Lib.hid hq1
   rw [hd0] at hw1
   have HW1:=Lib.hid hw1
   have hkI:(k:Int)<(ds.length:Int):=by omega
   generalize ds[k]=d at *
   generalize ds.length=N at *
   clear hI e1 e2 hb1 hr1 hq1 hw1 hd0 h
   go_enter Tryz.func20,Tryz.ntmps20
   go_upto_region 1 with fail
   rw [HW1.out]
   go_wp2_with (go_at_call 43;refine HI.out.mono ?_;rintro e w2 ⟨rfl,rfl⟩)
   refine post_cr2 rfl (by rfl) (by rfl) (setRow_heap _ _ _ _ _ _ HQ1.out) Tryz.underlying67 rfl (by exact devSize) (by rfl) ?_
   exact ⟨by rw [HX.out];rfl,bRow HB1.out (by omega)⟩
 · rw [e1] at hI
   have hbd:=dev0_build
   have hst:=stDev_at hq1 rfl dv0
   have HI:=Lib.hid hI
   have HX:=Lib.hid e2
   have HB1:=Lib.hid hb1
   have HQ1:=Lib.hid hq1
   rw [hd0] at hw1
   have HW1:=Lib.hid hw1
   generalize ds.length=N at *
   clear hI e1 e2 hb1 hr1 hq1 hw1 hd0 h
   go_enter Tryz.func20,Tryz.ntmps20
   go_upto_region 1 with fail
   rw [HW1.out]
   go_wp2_with (go_at_call 43;refine HI.out.mono ?_;rintro e w2 ⟨rfl,rfl⟩)
   refine post_cr2 rfl (by rfl) (by rfl) (setRow_heap _ _ _ _ _ _ HQ1.out) Tryz.underlying67 rfl (by exact devSize) (by rfl) ?_
   exact ⟨by rw [HX.out];rfl,bRow HB1.out (by omega)⟩
end
section
open Go.RowKit
def chX (ds:List Dv):Nat→Int→List Dv
 | 0,_=>[]
 | f+1,n=>match findX ds n with
   | none=>[]
   | some d=>d :: chX ds f d.pa
theorem chX_len (ds:List Dv):∀ (f:Nat) (n:Int),(chX ds f n).length≤f
 | 0,_=>Nat.le_refl _
 | f+1,n=>by
   rw [chX]
   cases findX ds n with
   | none=>exact Nat.zero_le _
   | some d=>exact Nat.succ_le_succ (chX_len ds f d.pa)
theorem findX_mem {ds:List Dv} {n:Int} {d:Dv} (h:findX ds n=some d):d∈ds∧d.ix=n:=⟨List.mem_of_find?_eq_some h,by simpa using List.find?_some h⟩
theorem chX_mem (ds:List Dv):∀ (f:Nat) (n:Int),∀ d∈chX ds f n,d∈ds
 | 0,_,_,h=>by cases h
 | f + 1,n,d,h=>by
   rw [chX] at h
   cases hf:findX ds n with
   | none=>rw [hf] at h;cases h
   | some x =>
     rw [hf] at h
     rcases List.mem_cons.1 h with rfl | h1
     · exact (findX_mem hf).1
     · exact chX_mem ds f x.pa d h1
def RChP (cs:List Dv) (w:World) (e:Ending) (w':World):Prop:=∃ A' c',e=.returned (.slice A' cs.length c')∧w'.ownsRow w.heap.size devT 10 (.slice A' cs.length c') cs.length (cellsOf encDv cs)∧Below w.heap.size w w'
theorem app_dev {B:Nat} {A:Option Addr} {c:Nat} {l:List Dv} (t:Dv) (w:World) (h:w.ownsRow B devT 10 (.slice A l.length c) l.length (cellsOf encDv l)) (hl:l.length≤1000000) (hB:B≤w.heap.size) :
 ∃ A' c' w',(apG #[28,28] 28 #[.slice A l.length c,.slice (some ⟨w.heap.size,0,none⟩) 1 1]).run Tryz.prog (w.alloc (.cells (encDv t).toArray devT))=.ok (.slice A' (l.length+1) c') w'∧w'.ownsRow B devT 10 (.slice A' (l.length+1) c') (l.length+1) (cellsOf encDv (l++[t]))∧w.grownBy w' (Value.slice A l.length c).ownBlock∧∀ p,A'=some p→w.heap.size≤p.block∨∃ q,A=some q∧q.block=p.block :=
 app_gen (S:=28) (T:=devT) (k:=10) (b:=136) (enc:=encDv) (by exact Tryz.underlying28) (by exact devInfoX) rfl (by decide) (by decide) encDv_len encDv_one t w h hl hB
attribute [local go_sem ↓] ap_g
set_option maxHeartbeats 2000000 in
theorem RChain_any (A:Option Addr) (c:Nat) (ds:List Dv) (n:Int) (w:World) (h:TrN w A ds) :
 Calls Tryz.prog 63 #[trV A ds c,.int .i64 n] w (RChP (chX ds ds.length n) w):=by
 obtain ⟨w1,hw1⟩:∃ w1,w.alloc (.cells #[.slice A ds.length c] 30)=w1:=⟨_,rfl⟩
 have hb1:Below w.heap.size w w1:=by rw [←hw1];exact below_alloc _ _
 have hr1:w1.heap[w.heap.size]? = some (.cells #[.slice A ds.length c] 30 (0,0)):=by rw [←hw1];exact heap_alloc_new _ _
 have hs1:w1.heap.size=w.heap.size+1:=by rw [←hw1];simp
 have hlen:=h.len
 have HF:=Lib.hid (fun (n:Int) (W:World) (hW:Below w1.heap.size w1 W)=>RFindD_any A c ds n W (h.keep (bt hb1 hW)))
 unfold trV at HF
 have HTr:Hid (∀ W:World,Below w1.heap.size w1 W→W.cell? ⟨w.heap.size,0,none⟩=some (.slice A ds.length c)):=Lib.hid fun W hW=>cellOf ((hW.block _ (blk_lt' hr1)).trans hr1) rfl
 generalize hX:chX ds ds.length n=X
 have HX:=Lib.hid hX
 have HB1:=Lib.hid hb1
 have HW1:=Lib.hid hw1
 have hlW:w.heap.size<w1.heap.size:=by omega
 clear hX hb1 hr1 hw1 hs1 h
 unfold trV
 obtain ⟨N,hN⟩:∃ N,ds.length=N:=⟨_,rfl⟩
 rw [hN] at hlen HF HTr HX HW1 ⊢
 clear hN
 go_enter Tryz.func63,Tryz.ntmps63
 go_upto_region 1 with fail
 rw [HW1.out]
 go_wp2
 go_loopg [1,5,6,7] (N+1) (fun gk s1 s5 _ _ wr=>∃ (o:List Dv) (OA:Option Addr) (oc:Nat) (m:Int),s1=.int .i64 m∧s5=.slice OA o.length oc∧o.length+gk=N+1∧o.length≤N∧Hid (wr.ownsRow w1.heap.size devT 10 (.slice OA o.length oc) o.length (cellsOf encDv o))∧Hid (Below w1.heap.size w1 wr)∧Hid (X=o++chX ds (N - o.length) m))
 case atStart=>exact ⟨[],none,0,n,rfl,rfl,by simp,Nat.zero_le _,Lib.hid (World.ownsRow_nil _ _ _ _),Lib.hid (Below.refl _ _),Lib.hid (by rw [←HX.out];rfl)⟩
 case round =>
  obtain ⟨o,OA,oc,m,rfl,rfl,hog,hoN,HO,HB,HE⟩:=hrel
  have c0:=HTr.out wr HB.out
  have hlr:w.heap.size<wr.heap.size:=Nat.lt_of_lt_of_le hlW HB.out.size
  have hEnd:Hid (∀ (W:World),Below wr.heap.size wr W→X=o→∃ A' c',Ending.returned (.slice OA o.length oc)=.returned (.slice A' X.length c')∧W.ownsRow w.heap.size devT 10 (.slice A' X.length c') X.length (cellsOf encDv X)∧Below w.heap.size w W):=Lib.hid fun W hW e=>by
   subst e
   exact ⟨OA,oc,rfl,own_base (own_below2 HO.out hW) (HB1.out.size),bt HB1.out (bt HB.out hW)⟩
  unfold RChP
  by_cases hlt:o.length<N
  · have hltI:(o.length:Int)<(N:Int):=by omega
    have HF1:=HF.out m wr HB.out
    obtain ⟨f,hf⟩:∃ f,N - o.length=f+1:=⟨N - o.length - 1,by omega⟩
    have hE:=HE.out
    rw [hf,chX] at hE
    cases hfx:findX ds m with
    | none =>
      rw [hfx] at hE HF1
      dsimp only at hE
      rw [List.append_nil] at hE
      have HE2:=Lib.hid hE
      have HF2:=Lib.hid HF1
      unfold RFindP dvV at HF2
      dsimp only [Option.getD,Option.isSome] at HF2
      clear hE HF1 hfx hf
      generalize o.length=M at *
      go_wp2_with (go_at_call 20;refine HF2.out.mono ?_;rintro e w3 ⟨rfl,hb3⟩)
      go_ret
      exact hEnd.out _ (bAl hb3) HE2.out
    | some d =>
      rw [hfx] at hE HF1
      dsimp only at hE
      have HE2:=Lib.hid hE
      have HF2:=Lib.hid HF1
      unfold RFindP dvV at HF2
      dsimp only [Option.getD,Option.isSome] at HF2
      have HAp:=Lib.hid (fun (W:World) (hW:Below wr.heap.size wr W)=>app_dev d W (own_below2 HO.out hW) (by omega) (Nat.le_trans HB.out.size hW.size))
      clear hE HF1 hfx
      go_upto_region 5 with (go_at_call 20;refine HF2.out.mono ?_;rintro e w3 ⟨rfl,hb3⟩;have HB3:=Lib.hid hb3;clear hb3)
      have hb4:=(bAl HB3.out:Below wr.heap.size wr (w3.alloc (.cells #[.int .i64 d.ix,.int .i64 d.pa,.string d.nam,.string d.og,.string d.sb,.string d.dr,.string d.al,.int .i64 d.kd,.int .i64 d.nb,.slice d.ats.A d.ats.l.length d.ats.c] devT)))
      have hq4:=heap_alloc_new w3 (.cells #[.int .i64 d.ix,.int .i64 d.pa,.string d.nam,.string d.og,.string d.sb,.string d.dr,.string d.al,.int .i64 d.kd,.int .i64 d.nb,.slice d.ats.A d.ats.l.length d.ats.c] devT)
      obtain ⟨A6,c6,w6,hap,hown,hgr,_⟩:=HAp.out _ hb4
      unfold encDv at hap
      simp only [World.size_alloc] at hap
      have hrow:∀ j,(Value.slice OA o.length oc).ownBlock=some j→w1.heap.size≤j∧j<wr.heap.size:=fun j ej=>by
       obtain ⟨p,e1,e2⟩:=slice_own ej
       have:=own_rng HO.out p e1
       rw [←e2];exact this
      have hq6:=(hgr.block w3.heap.size (blk_lt' hq4) (fun e=>by have:=(hrow _ e.symm).2;have:=HB3.out.size;omega)).trans hq4
      have d1:=cellOf (j:=1) hq6 rfl
      have hl6:=blk_lt' hq6
      have HO6:=Lib.hid hown
      have HB6:=Lib.hid ((HB.out.trans (hb4.mono HB.out.size)).grown hgr (Nat.le_trans HB.out.size hb4.size) (fun j ej=>(hrow j ej).1):Below w1.heap.size w1 w6)
      clear hown hgr hrow hq6 hq4 hb4 HAp
      go_wp2
      go_roundg (gk - 1)
      case measure=>omega
      case rel =>
       have hl9:(o++[d]).length=o.length+1:=by simp
       refine ⟨o++[d],A6,c6,d.pa,rfl,by rw [hl9],by rw [hl9];omega,by rw [hl9];omega,?_,HB6,?_⟩
       · rw [hl9];exact HO6
       · refine Lib.hid ?_
         rw [HE2.out,hl9,show N - (o.length+1)=f from by omega,List.append_assoc];rfl
  · obtain rfl:o.length=N:=by omega
    have hE:=HE.out
    rw [Nat.sub_self,chX,List.append_nil] at hE
    have HE2:=Lib.hid hE
    clear hE
    go_wp2
    go_ret
    exact hEnd.out _ (Below.refl _ _) HE2.out
end
end Go.Proofs.YtobcmlmbblgcdaaGreatDoor

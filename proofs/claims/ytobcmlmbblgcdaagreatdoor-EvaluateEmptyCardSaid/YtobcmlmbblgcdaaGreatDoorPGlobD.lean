/-
  Contract of the program's set: a set of a pattern, behind its beginning.
-/
import Derived.Test.YtobcmlmbblgcdaaGreatDoorPGlobC
import Derived.Test.YtobcmlmbblgcdaaGreatDoorG00
import Derived.Deep.RegionWith
namespace Go.Proofs.YtobcmlmbblgcdaaGreatDoor
set_option maxRecDepth 100000
open Go.RowKit
theorem hp_one (l:Str) (c:UInt8):Lib.hasPrefix l [c]=decide (l.head? = some c):=by
 cases l with
 | nil=>simp [Lib.hasPrefix]
 | cons x r =>
   simp only [Lib.hasPrefix,List.head?_cons,Option.some.injEq]
   by_cases h:x=c
   · subst h;simp [List.isPrefixOf]
   · have:(c == x)=false:=by simpa using fun e=>h e.symm
     simp [List.isPrefixOf,this,h]
theorem hp_q (q:ByteArray) (c:UInt8) (w:World):Calls Tryz.prog 102 #[.string q,.string ⟨#[c]⟩] w fun e w'=>e=.returned (.bool (decide ((L q).head? = some c)))∧w'=w:=by
 have h:=HasPrefix_any q ⟨#[c]⟩ w
 rw [show L ⟨#[c]⟩=[c] from rfl,hp_one] at h
 exact h.mono fun _ _ ⟨h1,h2⟩=>⟨h1,h2.symm⟩
theorem post_cellrow2 {P:Program} {fn:Func} {R:Ending→World→Prop} {a:Act} {W:World} {g:Nat} {p q:Tmp} {ty t:TypeId} {cs:Array Value} {u:Value} {fr:Nat × Nat} {d:TypeDesc} (h:fn.results=#[.cell p ty,.tmp q]) (hp:a.tmps.getD p undef=.pointer (some ⟨g,0,none⟩)) (hq:a.tmps.getD q undef=u)
 (hg:W.heap[g]? = some (.cells cs t fr)) (hu:P.underlying ty=some d) (hd:(match d with | .struct _ | .array _ _=>true | _=>false)=true) (hi:(P.info? ty).map (·.size)=some cs.size) (hdef:a.defers=[])
 (hR:R (.returned (.tuple #[.agg cs,u])) W):bodyPost P fn R .ret a W:=by
 have hp':a.tmps[p]?.getD undef=.pointer (some ⟨g,0,none⟩):=by simpa using hp
 have hq':a.tmps[q]?.getD undef=u:=by simpa using hq
 refine bodyPost_ret (v:=.tuple #[.agg cs,u]) ?_ hdef hR
 simp [results,h,hp',hq',asAddr,run_loadVar_row W g t ty cs fr d hg hu hd hi]
def PSetPost (p:ByteArray) (g:Nat) (r:Str) (w:World) (e:Ending) (w':World):Prop:=w.grownBy w' (some g) ∧
 match setS r with
 | some (x,r')=>e=.returned (.tuple #[.agg (boolA 127 x.has),.bool true])∧w'.heap[g]? = some (rdr p ((p.size:Int) - r'.length))
 | none=>e=.returned (.tuple #[.agg (boolA 127 (fun _=>false)),.bool false])
theorem setQ_bad {no:Bool} {q:Str} (h:membersK q=none):setQ no q=none:=by
 unfold setQ
 unfold membersK at h
 rw [h]
 split <;> rfl
theorem setQ_some {no:Bool} {q r:Str} {rs:List (UInt8 × UInt8)} (h:membersK q=some (rs,r)) (hh:q.head?≠some 93):setQ no q=some (.set no rs,r):=by
 unfold setQ
 unfold membersK at h
 rw [if_neg hh,h]
 rfl
theorem mem_some {c:UInt8} {r:Str} {x:UInt8 × UInt8} {n:Nat} (h:memS (c :: r)=some (x,n)) (hc:c≠93):x.1=c∧membersK (c :: r)=(membersK ((c :: r).drop n)).map (fun y=>(x :: y.1,y.2))∧1≤n∧(n=1∨∃ b,rngS r=some b∧n=3):=by
 rw [memS] at h
 cases hr:rngS r with
 | none =>
   rw [hr] at h
   simp only [Option.some.injEq,Prod.mk.injEq] at h
   obtain ⟨rfl,rfl⟩:=h
   refine ⟨rfl,?_,Nat.le_refl _,Or.inl rfl⟩
   rw [membersK_one _ _ hc hr];rfl
 | some b =>
   rw [hr] at h
   dsimp only at h
   split at h
   · rename_i hle
     simp only [Option.some.injEq,Prod.mk.injEq] at h
     obtain ⟨rfl,rfl⟩:=h
     refine ⟨rfl,?_,by omega,Or.inr ⟨b,rfl,rfl⟩⟩
     rw [membersK_rng _ _ _ hc hr,if_pos hle];rfl
   · cases h
theorem mem_none {c:UInt8} {r:Str} (h:memS (c :: r)=none) (hc:c≠93):membersK (c :: r)=none:=by
 rw [memS] at h
 cases hr:rngS r with
 | none=>rw [hr] at h;cases h
 | some b =>
   rw [hr] at h
   dsimp only at h
   split at h
   · cases h
   · rename_i hle
     rw [membersK_rng _ _ _ hc hr,if_neg hle]
theorem alloc_st (w:World) (f:Nat→Bool):(stSet (.pointer (some ⟨w.heap.size,0,none⟩)) (.agg (boolA 127 f))).run Tryz.prog (w.alloc (.cells Tryz.zeroCells268 268))=.ok () ((w.alloc (.cells Tryz.zeroCells268 268)).setRow w.heap.size (boolA 127 f)) :=
 stSet_at (heap_alloc_new w _) (by rw [zeroSet,size_boolA]) (size_boolA _ _) (boolA_one _ _)
theorem alloc_st_at (w:World) (f:Nat→Bool):((w.alloc (.cells Tryz.zeroCells268 268)).setRow w.heap.size (boolA 127 f)).heap[w.heap.size]? = some (.cells (boolA 127 f) 268 (0,0)):=setRow_heap _ _ _ _ _ _ (heap_alloc_new w _)
theorem alloc_st_old (w:World) (f:Nat→Bool) {b:Nat} {o:Obj} (h:w.heap[b]? = some o):((w.alloc (.cells Tryz.zeroCells268 268)).setRow w.heap.size (boolA 127 f)).heap[b]? = some o:=by
 have:=blk_lt' h
 rw [setRow_other _ _ _ _ (by omega)]
 exact (heap_alloc_old _ _ this).trans h
theorem alloc_st_grown {WA w:World} {row:Option Nat} (f:Nat→Bool) (h:WA.grownBy w row):WA.grownBy ((w.alloc (.cells Tryz.zeroCells268 268)).setRow w.heap.size (boolA 127 f)) row :=
 grown_far (grown_tr h (World.grownBy_alloc _ _ _)) (grown_setRow _ _ _) (fun j e=>by cases e;exact Or.inl h.size)
theorem inRs_low {rs:List (UInt8 × UInt8)} (h:∀ x∈rs,32≤x.1.toNat) (c:Nat) (hc:c<32):inRs rs c=false:=by
 unfold inRs
 rw [List.any_eq_false]
 intro x hx
 have:=h x hx
 simp
 omega
attribute [local go_sem ↓] ld_set st_set bd_set'
set_option maxHeartbeats 4000000 in
theorem PGSet_any (p:ByteArray) (i g:Nat) (w:World) (hp:p.size≤256) (hpr:printS (L p)=true) (hi:i≤p.size) (hg:w.heap[g]? = some (rdr p i)) :
 Calls Tryz.prog 232 #[.pointer (some ⟨g,0,none⟩)] w (PSetPost p g ((L p).drop i) w):=by
 have hglt:=blk_lt' hg
 obtain ⟨no,ft,hft,hcase,hset⟩:∃ no ft,(ft≤p.size)∧(no=decide (((L p).drop i).head? = some 33)∧ft=if no then i+1 else i)∧setS ((L p).drop i)=setQ no ((L p).drop ft):=by
  by_cases h:((L p).drop i).head? = some 33
  · have hi':i<p.size:=by
     rcases Nat.lt_or_ge i p.size with h' | h'
     · exact h'
     · rw [List.drop_eq_nil_of_le (by rw [len_L];exact h')] at h;simp at h
    refine ⟨true,i+1,hi',⟨by rw [decide_eq_true h],rfl⟩,?_⟩
    rw [setS,if_pos h,List.drop_drop]
  · exact ⟨false,i,hi,⟨by rw [decide_eq_false h],rfl⟩,by rw [setS,if_neg h]⟩
 obtain ⟨q,hq⟩:∃ q,p.extract i p.size=q:=⟨_,rfl⟩
 have hL:L q=(L p).drop i:=by rw [←hq,L_extract,List.take_of_length_le (by rw [len_L];exact Nat.le_refl _)]
 have hHP:=fun W=>hp_q q 33 W
 rw [hL,←hcase.1] at hHP
 have HHP:=Lib.hid hHP
 have HS:=Lib.hid hset
 have HP:=Lib.hid hpr
 have HFt:=Lib.hid hcase.2
 obtain ⟨WA,hWA⟩:∃ WA,w.alloc (.cells (boolA 127 (fun _=>false)) 268)=WA:=⟨_,rfl⟩
 have hA0:WA.heap[w.heap.size]? = some (.cells (boolA 127 (fun _=>false)) 268 (0,0)):=by rw [←hWA];exact heap_alloc_new _ _
 have hAg:WA.heap[g]? = some (rdr p i):=by rw [←hWA];exact (heap_alloc_old _ _ hglt).trans hg
 have hAs:WA.heap.size=w.heap.size+1:=by rw [←hWA];simp
 have hAb:Below w.heap.size w WA:=by rw [←hWA];exact below_alloc _ _
 obtain ⟨WB,hWB⟩:∃ WB,WA.alloc (.cells (boolA 127 (inRs [])) 268)=WB:=⟨_,rfl⟩
 have hB1:WB.heap[w.heap.size+1]? = some (.cells (boolA 127 (inRs [])) 268 (0,0)):=by rw [←hWB,←hAs];exact heap_alloc_new _ _
 have hBg:WB.heap[g]? = some (rdr p i):=by rw [←hWB];exact (heap_alloc_old _ _ (blk_lt' hAg)).trans hAg
 have hgb:WA.grownBy WB (some g):=by rw [←hWB];exact World.grownBy_alloc _ _ _
 have c0:=cellOf (j:=0) (u:=.string p) hBg rfl
 have c1:=cellOf (j:=1) (u:=.int .i64 i) hBg rfl
 have f1:=frozen_of_row _ _ 1 _ _ hBg
 have hiI:(i:Int)≤(p.size:Int):=by omega
 have hfalse:boolA 127 (fun _=>false)=boolA 127 (inRs []):=boolA_congr (fun c _=>rfl)
 have HA0:=Lib.hid hA0
 have HAb:=Lib.hid hAb
 have HAs:=Lib.hid hAs
 have HB1:=Lib.hid hB1
 have HBg:=Lib.hid hBg
 have HGb:=Lib.hid hgb
 have HWA:=Lib.hid hWA
 have HWB:=Lib.hid hWB
 clear hpr hset hcase hL hHP hA0 hAs hAb hWB hWA hB1 hBg hgb hAg hg
 go_enter Tryz.func232,Tryz.ntmps232
 go_upto_region 2 with fail
 rw [zeroSet,HWA.out]
 rw [hfalse,HWB.out]
 go_quiet (first | (go_at_call 102;exact Calls.quiet_of_same (HHP.out _)))
 go_upto_if 19 with fail
 go_cut [5] from 20 to 26 (fun s5 wx=>s5=.bool no∧Hid (WA.grownBy wx (some g))∧Hid (wx.heap[g]? = some (rdr p (ft:Nat)))∧Hid (wx.heap[w.heap.size+1]? = some (.cells (boolA 127 (inRs [])) 268 (0,0))))
 case first =>
  have hne:g≠w.heap.size+1:=by omega
  cases no
  · have hfe:=HFt.out
    simp only [Bool.false_eq_true,if_false] at hfe
    subst hfe
    go_wp2
    go_meet
    exact ⟨rfl,grown_tr HGb.out (grown_drewN _ _ _),HBg.out,HB1.out⟩
  · have hfe:=HFt.out
    simp only [if_true] at hfe
    subst hfe
    go_wp2
    go_meet
    exact ⟨rfl,grown_tr (grown_tr HGb.out (grown_drewN _ _ _)) (grown_set _ _ _ _),by rw [show ((i+1:Nat):Int)=(i:Int)+1 from by omega];exact rd_set HBg.out,rd_other HB1.out hne⟩
 case rest =>
 obtain ⟨rfl,HGc,HRc,HBc⟩:=hcut
 clear HB1 HBg HGb HWB HHP HFt c0 c1 f1 hq
 have c1:=cellOf (j:=1) (u:=.int .i64 (ft:Nat)) HRc.out rfl
 have hne:g≠w.heap.size+1:=by omega
 have hbs:WA.heap.size≤w.heap.size+1:=by rw [HAs.out];exact Nat.le_refl _
 go_wp2
 clear c1
 go_loopg [3] (p.size+2) (fun gk s3 wr=>∃ (j:Nat) (rs:List (UInt8 × UInt8)),s3=.bool false∧ft≤j∧j≤p.size∧j+gk=ft+(p.size+2)∧Hid (WA.grownBy wr (some g))∧Hid (wr.heap[g]? = some (rdr p (j:Nat)))∧Hid (wr.heap[w.heap.size+1]? = some (.cells (boolA 127 (inRs rs)) 268 (0,0)))∧Hid (membersK ((L p).drop ft)=(membersK ((L p).drop j)).map (fun x=>(rs++x.1,x.2)))∧Hid (∀ x∈rs,32≤x.1.toNat)∧Hid (ft<j→((L p).drop ft).head?≠some 93))
 case atStart=>exact ⟨ft,[],rfl,Nat.le_refl _,hft,rfl,HGc.out,HRc.out,HBc.out,(by show _=_;cases membersK ((L p).drop ft) <;> rfl),(fun x hx=>by cases hx),fun h=>absurd h (Nat.lt_irrefl _)⟩
 case round =>
  obtain ⟨j,rs,rfl,hj1,hj2,hjg,hG,hR,hB,hm,hlo,hhd⟩:=hrel
  obtain ⟨q,hq⟩:∃ q,p.extract j p.size=q:=⟨_,rfl⟩
  have hL:L q=(L p).drop j:=by rw [←hq,L_extract,List.take_of_length_le (by rw [len_L];exact Nat.le_refl _)]
  have hHP:=fun W=>hp_q q 93 W
  rw [hL] at hHP
  have c0:=cellOf (j:=0) (u:=.string p) hR.out rfl
  have c1:=cellOf (j:=1) (u:=.int .i64 (j:Nat)) hR.out rfl
  have f1:=frozen_of_row _ _ 1 _ _ hR.out
  have hjI:(j:Int)≤(p.size:Int):=by omega
  clear hL
  by_cases hx:ft<j∧((L p).drop j).head? = some 93
  · obtain ⟨hfj,h93⟩:=hx
    rw [decide_eq_true h93] at hHP
    have HHP:=Lib.hid hHP
    have ejf:((j:Int) == (ft:Int))=false:=by rw [beq_eq_false_iff_ne];omega
    have hjp:j<p.size:=by
     rcases Nat.lt_or_ge j p.size with h | h
     · exact h
     · rw [List.drop_eq_nil_of_le (by rw [len_L];exact h)] at h93;simp at h93
    have hend:setQ no ((L p).drop ft)=some (.set no rs,(L p).drop (j+1)):=by
     refine setQ_some ?_ (hhd.out hfj)
     rw [hm.out,drop_cons p j hjp]
     rw [drop_cons p j hjp] at h93
     rw [show p[j]=93 by simpa using h93,membersK_end]
     simp
    have HE:=Lib.hid hend
    clear hHP h93 hend hm hhd
    go_wp2
    go_quiet (first | (go_at_call 102;exact Calls.quiet_of_same (HHP.out _)))
    go_upto_if 73 with fail
    go_cut [7,8] from 74 to 90 (fun _ _ wx=>Hid (WA.grownBy wx (some g))∧Hid (wx.heap[g]? = some (rdr p ((j:Int)+1)))∧Hid (wx.heap[w.heap.size+1]? = some (.cells (boolA 127 (El.has (.set no rs))) 268 (0,0))))
    case first =>
     obtain ⟨W1,hW1⟩:∃ W1,(wr.drewN nq).setCell ⟨g,1,none⟩ (.int .i64 ((j:Int)+1))=W1:=⟨_,rfl⟩
     rw [hW1]
     have hG1:WA.grownBy W1 (some g):=by rw [←hW1];exact grown_tr (grown_tr hG.out (grown_drewN _ _ _)) (grown_set _ _ _ _)
     have hR1:W1.heap[g]? = some (rdr p ((j:Int)+1)):=by rw [←hW1];exact rd_set hR.out
     have hB1:W1.heap[w.heap.size+1]? = some (.cells (boolA 127 (inRs rs)) 268 (0,0)):=by rw [←hW1];exact rd_other hB.out hne
     have HG1:=Lib.hid hG1
     have HR1:=Lib.hid hR1
     have HB1:=Lib.hid hB1
     clear hW1 hG1 hR1 hB1 hG hR hB c0 c1 f1 hq
     cases no
     · go_wp2
       go_meet
       exact ⟨HG1.out,HR1.out,HB1.out⟩
     · go_wp2_with (go_at_call 231;refine (every_any _).mono ?_;rintro e w2 ⟨rfl,hb2⟩;have hst:=alloc_st w2 allB;have HB2:=Lib.hid hb2;clear hb2)
       have HG2:=Lib.hid (alloc_st_grown allB (grown_tr HG1.out (grown_below HB2.out _)))
       have HR2:=Lib.hid (alloc_st_old w2 allB ((HB2.out.block g (blk_lt' HR1.out)).trans HR1.out))
       have HBb:=Lib.hid (alloc_st_old w2 allB ((HB2.out.block _ (blk_lt' HB1.out)).trans HB1.out))
       have HAll:=Lib.hid (alloc_st_at w2 allB)
       have hGlt:w.heap.size+1<w2.heap.size:=Nat.lt_of_lt_of_le (blk_lt' HB1.out) HB2.out.size
       have hGg:g<w2.heap.size:=Nat.lt_of_lt_of_le (blk_lt' HR1.out) HB2.out.size
       have hfe:(fun c=>if 32≤c∧c<32 then !inRs rs c else inRs rs c)=inRs rs:=by funext c;rw [if_neg (by omega)]
       clear hst HG1 HR1 HB1
       go_wp2
       obtain ⟨gko,rfl⟩:∃ gko:Nat,gko=gk:=⟨_,rfl⟩
       obtain ⟨wo,rfl⟩:∃ wo:World,wo=wr:=⟨_,rfl⟩
       go_loopg [7,8] 97 (fun gk s7 s8 wr=>∃ (k G:Nat),s7=.int .i64 k∧s8=.pointer (some ⟨G,0,none⟩)∧32≤k∧k≤127∧k+gk=129∧w.heap.size+1<G∧g<G∧Hid (WA.grownBy wr (some g))∧Hid (wr.heap[g]? = some (rdr p ((j:Int)+1)))∧Hid (wr.heap[w.heap.size+1]? = some (.cells (boolA 127 (fun c=>if 32≤c∧c<k then !inRs rs c else inRs rs c)) 268 (0,0)))∧Hid (wr.heap[G]? = some (.cells (boolA 127 allB) 268 (0,0))))
       case atStart=>exact ⟨32,w2.heap.size,rfl,rfl,Nat.le_refl _,by omega,rfl,hGlt,hGg,HG2.out,HR2.out,by show _=_;rw [hfe];exact HBb.out,HAll.out⟩
       case round =>
        obtain ⟨k,G,rfl,rfl,hk1,hk2,hkg,hGB,hGg,hG,hR,hB,hA⟩:=hrel
        by_cases hk:k≤126
        · have hkI:(k:Int)≤126:=by omega
          have cA:=cellOf hA.out (boolA_get 127 allB k (by omega))
          rw [show allB k=true from by simp [allB];omega] at cA
          have cB:=cellOf hB.out (boolA_get 127 _ k (by omega))
          rw [if_neg (by omega)] at cB
          have fB:=frozen_of_row _ _ k _ _ hB.out
          have hset:=boolA_set 127 (fun c=>if 32≤c∧c<k then !inRs rs c else inRs rs c) k (!inRs rs k)
          have ef:(fun d=>if d=k then !inRs rs k else if 32≤d∧d<k then !inRs rs d else inRs rs d)=(fun c=>if 32≤c∧c<k+1 then !inRs rs c else inRs rs c):=by
           funext d
           by_cases hd:d=k
           · subst hd;rw [if_pos rfl,if_pos (by omega)]
           · rw [if_neg hd]
             by_cases h:32≤d∧d<k
             · rw [if_pos h,if_pos (by omega)]
             · rw [if_neg h,if_neg (by omega)]
          rw [ef] at hset
          have hB2:=setCell_known hB.out hset
          have hA2:=rd_other (g:=w.heap.size+1) (u:=.bool (!inRs rs k)) (i:=k) hA.out (by omega)
          have hR2:=rd_other (g:=w.heap.size+1) (u:=.bool (!inRs rs k)) (i:=k) hR.out (fun e=>hne e.symm)
          have hG2:=grown_far hG.out (grown_set wr (w.heap.size+1) k (.bool (!inRs rs k))) (fun j e=>by cases e;exact Or.inl hbs)
          have hl:=ldGs_at hA2 (size_boolA _ _)
          have hst:=alloc_st (wr.setCell ⟨w.heap.size+1,k,none⟩ (.bool (!inRs rs k))) allB
          have HG2:=Lib.hid (alloc_st_grown allB hG2)
          have HR2:=Lib.hid (alloc_st_old _ allB hR2)
          have HB2:=Lib.hid (alloc_st_old _ allB hB2)
          have HAll:=Lib.hid (alloc_st_at (wr.setCell ⟨w.heap.size+1,k,none⟩ (.bool (!inRs rs k))) allB)
          have hlt1:=blk_lt' hB.out
          have hlt2:=blk_lt' hR.out
          have hsz:(wr.setCell ⟨w.heap.size+1,k,none⟩ (.bool (!inRs rs k))).heap.size=wr.heap.size:=by simp [World.setCell]
          rw [hsz] at hst HG2 HR2 HB2 HAll
          clear hset ef hB2 hA2 hR2 hG2 hG hR hB hA hsz
          go_wp2
          go_roundg (gk - 1)
          case measure=>omega
          case rel=>exact ⟨k+1,wr.heap.size,by go_num,rfl,by omega,by omega,by omega,hlt1,hlt2,HG2.out,HR2.out,HB2.out,HAll.out⟩
        · obtain rfl:k=127:=by omega
          have e:boolA 127 (fun c=>if 32≤c∧c<127 then !inRs rs c else inRs rs c)=boolA 127 (El.has (.set true rs)):=boolA_congr fun c hc=>by
           show _=(decide (32≤c) && decide (c≤126) && !inRs rs c)
           by_cases h:32≤c
           · rw [if_pos ⟨h,hc⟩]
             have h2:c≤126:=by omega
             simp [h,h2]
           · rw [if_neg (fun x=>h x.1),inRs_low hlo.out c (by omega)]
             simp [h]
          rw [e] at hB
          clear e
          go_wp2
          go_meet
          exact ⟨hG.out,hR.out,hB.out⟩
    case rest =>
    obtain ⟨hG2,hR2,hB2⟩:=hcut
    have hl:=ldGs_at hB2.out (size_boolA _ _)
    have h0:wc.heap[w.heap.size]? = some (.cells (boolA 127 (fun _=>false)) 268 (0,0)):=(hG2.out.block _ (by rw [HAs.out];omega) (by intro e;have:=Option.some.inj e;omega)).trans HA0.out
    have hs:=stSet_at h0 (size_boolA _ _) (size_boolA 127 (El.has (.set no rs))) (boolA_one 127 _)
    have H0:=Lib.hid h0
    clear hG hR hB c0 c1 f1 hq h0
    go_wp2
    refine post_cellrow2 rfl (by rfl) (by rfl) (setRow_heap _ _ _ _ _ _ H0.out) Tryz.underlying268 rfl (by rw [size_boolA];exact setSize) (by rfl) ?_
    unfold PSetPost
    rw [HS.out,HE.out]
    refine ⟨grown_far (grown_tr (grown_below HAb.out _) hG2.out) (grown_setRow _ _ _) (fun k e=>by cases e;exact Or.inl (Nat.le_refl _)),rfl,?_⟩
    rw [setRow_other _ _ _ _ (by omega),hR2.out]
    congr 2
    simp only [List.length_drop,len_L]
    omega
  · go_upto_region 6 with fail
    go_cut [49] from 31 to 49 (fun s49 wx=>s49=.bool true∧Hid (WA.grownBy wx (some g))∧Hid (wx.heap[g]? = some (rdr p (j:Nat)))∧Hid (wx.heap[w.heap.size+1]? = some (.cells (boolA 127 (inRs rs)) 268 (0,0))))
    case first =>
     by_cases hjf:j=ft
     · subst hjf
       clear hHP hx
       go_quiet (fail)
       go_wp2
       go_meet
       exact ⟨rfl,grown_tr hG.out (grown_drewN _ _ _),hR.out,hB.out⟩
     · have ejf:((j:Int) == (ft:Int))=false:=by rw [beq_eq_false_iff_ne];omega
       rw [decide_eq_false (fun h=>hx ⟨by omega,h⟩)] at hHP
       have HHP:=Lib.hid hHP
       clear hHP hx
       go_quiet (first | (go_at_call 102;exact Calls.quiet_of_same (HHP.out _)))
       go_wp2
       go_meet
       exact ⟨rfl,grown_tr hG.out (grown_drewN _ _ _),hR.out,hB.out⟩
    case rest =>
    obtain ⟨rfl,hG2,hR2,hB2⟩:=hcut
    clear hG hR hB
    have hjl:ft<j→((L p).drop j).head?≠some 93:=fun h h2=>hx ⟨h,h2⟩
    have HJl:=Lib.hid hjl
    have d0:=cellOf (j:=0) (u:=.string p) hR2.out rfl
    have d1:=cellOf (j:=1) (u:=.int .i64 (j:Nat)) hR2.out rfl
    clear hjl hx c0 c1 f1
    go_upto_region 7 with fail
    go_cut [64] from 50 to 64 (fun s64 wx=>Hid (WA.grownBy wx (some g))∧(s64=.bool true∧Hid (setQ no ((L p).drop ft)=none)∨s64=.bool false∧∃ (n:Nat) (x:UInt8 × UInt8),1≤n∧j+n≤p.size∧32≤x.1.toNat∧Hid (wx.heap[g]? = some (rdr p ((j+n:Nat):Int)))∧Hid (wx.heap[w.heap.size+1]? = some (.cells (boolA 127 (inRs (rs++[x]))) 268 (0,0)))∧Hid (membersK ((L p).drop j)=(membersK ((L p).drop (j+n))).map (fun y=>(x :: y.1,y.2)))∧Hid (((L p).drop j).head?≠some 93)))
    case first =>
     by_cases h93:((L p).drop j).head? = some 93
     · have hjf:j=ft:=by
        rcases Nat.lt_or_ge ft j with h | h
        · exact absurd h93 (HJl.out h)
        · omega
       subst hjf
       rw [decide_eq_true h93] at hHP
       have HHP:=Lib.hid hHP
       have HQ:Hid (setQ no ((L p).drop j)=none):=Lib.hid (by rw [setQ,if_pos h93])
       clear hHP h93 hm
       go_quiet (first | (go_at_call 102;exact Calls.quiet_of_same (HHP.out _)))
       go_wp2
       go_meet
       exact ⟨grown_tr hG2.out (grown_drewN _ _ _),Or.inl ⟨rfl,HQ.out⟩⟩
     · rw [decide_eq_false h93] at hHP
       have HHP:=Lib.hid hHP
       have hmem:=fun W h1 h2=>member_any p j g (w.heap.size+1) rs W hp HP.out hj2 hne h1 h2
       unfold MemPost at hmem
       cases hms:memS ((L p).drop j) with
       | none =>
         rw [hms] at hmem
         have HMem:=Lib.hid hmem
         have HQ:Hid (setQ no ((L p).drop ft)=none):=Lib.hid (setQ_bad (by
          rw [hm.out]
          rcases Nat.lt_or_ge j p.size with hjp | hjp
          · rw [drop_cons p j hjp] at h93 hms ⊢
            rw [mem_none hms (by simpa using h93)];rfl
          · rw [List.drop_eq_nil_of_le (by rw [len_L];exact hjp),membersK_nil];rfl))
         clear hmem hHP h93 hms hm
         go_region_with (first
          | (go_at_call 102;refine (HHP.out _).mono ?_;rintro e w3 ⟨rfl,rfl⟩)
          | (go_at_call 261;refine (HMem.out _ (by exact hR2.out) (by exact hB2.out)).mono ?_;rintro e w4 ⟨hk4,rfl⟩))
         all_goals
          go_wp2
          go_meet
          exact ⟨hk4 WA (grown_tr hG2.out ⟨rfl,rfl,rfl,Nat.le_refl _,fun _ _ _=>rfl⟩) hbs,Or.inl ⟨rfl,HQ.out⟩⟩
       | some y =>
         obtain ⟨x,n⟩:=y
         rw [hms] at hmem
         dsimp only at hmem
         have hjp:j<p.size:=by
          rcases Nat.lt_or_ge j p.size with h | h
          · exact h
          · rw [List.drop_eq_nil_of_le (by rw [len_L];exact h)] at hms;cases hms
         have hms2:=hms
         have h932:=h93
         rw [drop_cons p j hjp] at hms2 h932
         obtain ⟨e1,e2,hn1,hn2⟩:=mem_some hms2 (by simpa using h932)
         have hpj:=pr_of HP.out j hjp
         have hn3:j+n≤p.size:=by
          rcases hn2 with rfl | ⟨b,hb,rfl⟩
          · omega
          · obtain ⟨_,h2,_⟩:=rng_some hb
            omega
         have HM2:Hid (membersK ((L p).drop j)=(membersK ((L p).drop (j+n))).map (fun y=>(x :: y.1,y.2))):=Lib.hid (by
          rw [drop_cons p j hjp,e2,←drop_cons p j hjp,List.drop_drop])
         have hx32:32≤x.1.toNat:=by rw [e1];omega
         have H93:=Lib.hid h93
         have HMem:=Lib.hid hmem
         clear hmem hHP h93 hms hms2 h932 e1 e2 hn2 hm hpj
         go_region_with (first
          | (go_at_call 102;refine (HHP.out _).mono ?_;rintro e w3 ⟨rfl,rfl⟩)
          | (go_at_call 261;refine (HMem.out _ (by exact hR2.out) (by exact hB2.out)).mono ?_;rintro e w4 ⟨hk4,rfl,hr4,hb4⟩;have HR4:=Lib.hid hr4;have HB4:=Lib.hid hb4;clear hr4 hb4))
         all_goals
          go_wp2
          go_meet
          exact ⟨hk4 WA (grown_tr hG2.out ⟨rfl,rfl,rfl,Nat.le_refl _,fun _ _ _=>rfl⟩) hbs,Or.inr ⟨rfl,n,x,hn1,hn3,hx32,HR4.out,HB4.out,HM2.out,H93.out⟩⟩
    case rest =>
    obtain ⟨hG3,h64⟩:=hcut
    clear hHP HJl d0 d1 hR2 hB2 hG2
    rcases h64 with ⟨rfl,HQ⟩ | ⟨rfl,n,x,hn1,hn3,hx32,hR4,hB4,hm4,h93⟩
    · have hbd:=bdSet_none wc
      have h0:wc.heap[w.heap.size]? = some (.cells (boolA 127 (fun _=>false)) 268 (0,0)):=(hG3.out.block _ (by rw [HAs.out];omega) (by intro e;have:=Option.some.inj e;omega)).trans HA0.out
      have hs:=stSet_at h0 (size_boolA _ _) (size_boolA 127 (inRs [])) (boolA_one 127 _)
      have H0:=Lib.hid h0
      clear h0
      go_wp2
      refine post_cellrow2 rfl (by rfl) (by rfl) (setRow_heap _ _ _ _ _ _ H0.out) Tryz.underlying268 rfl (by rw [size_boolA];exact setSize) (by rfl) ?_
      unfold PSetPost
      rw [HS.out,HQ.out]
      exact ⟨grown_far (grown_tr (grown_below HAb.out _) hG3.out) (grown_setRow _ _ _) (fun k e=>by cases e;exact Or.inl (Nat.le_refl _)),by rw [hfalse];rfl⟩
    · have HM5:Hid (membersK ((L p).drop ft)=(membersK ((L p).drop (j+n))).map (fun y=>((rs++[x])++y.1,y.2))):=Lib.hid (by
       rw [hm.out,hm4.out,Option.map_map]
       congr 1
       funext y
       simp)
      have HLo:Hid (∀ y∈rs++[x],32≤y.1.toNat):=Lib.hid fun y hy=>by
       rcases List.mem_append.1 hy with hy | hy
       · exact hlo.out y hy
       · obtain rfl:=List.mem_singleton.1 hy;exact hx32
      have HHd:Hid (ft<j+n→((L p).drop ft).head?≠some 93):=Lib.hid fun _=>by
       rcases Nat.lt_or_ge ft j with h | h
       · exact hhd.out h
       · have:ft=j:=by omega
         rw [this];exact h93.out
      clear hm hm4 hlo hhd h93
      go_wp2
      go_roundg (gk - n)
      case measure=>omega
      case rel=>exact ⟨j+n,_,rfl,by omega,hn3,by omega,hG3.out,hR4.out,hB4.out,HM5.out,HLo.out,HHd.out⟩
end Go.Proofs.YtobcmlmbblgcdaaGreatDoor

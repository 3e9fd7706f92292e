/-
  Contract of the program's alternatives of a pattern.
  Contracts of the program's parse and Check of a pattern.
  Contract of the program's matches: one alternative of a pattern at a text, the greedy way.
  Contracts of both sides' Match of a pattern.
  Contracts of the reference's Static, Upward, holds and Device of a term.
  Contract of the reference's Device of a term. (Printed by gen_dev.py.)
-/
import Derived.Test.YtobcmlmbblgcdaaGreatDoorPGlobD
import Derived.Test.YtobcmlmbblgcdaaGreatDoorG04
import Derived.BigQuiet
import Derived.Test.YtobcmlmbblgcdaaGreatDoorG05
import Derived.Deep.RegionHeld3
namespace Go.Proofs.YtobcmlmbblgcdaaGreatDoor
set_option maxRecDepth 100000
section
open Go.RowKit
def encEP (x:El):List Value:=(elP x.litN x.isStar x.has).toList
theorem encEP_len (x:El):(encEP x).length=129:=by rw [encEP,Array.length_toList,size_elP]
abbrev AltsP:=NstV (α:=El) 238 270 129 encEP
def PAltPost (p:ByteArray) (g:Nat) (w:World) (e:Ending) (w':World):Prop:=w.grownBy w' (some g) ∧
 match globP (L p) with
 | none=>e=.returned (.tuple #[.slice none 0 0,.bool false])
 | some alts=>∃ v,e=.returned (.tuple #[v,.bool true])∧Nst 238 270 129 encEP w' w.heap.size v alts
theorem el_st (w:World) (n:Nat) (st:Bool) (f:Nat→Bool):(stElP (.pointer (some ⟨w.heap.size,0,none⟩)) (.agg (elP n st f))).run Tryz.prog (w.alloc (.cells Tryz.zeroCells270 270))=.ok () ((w.alloc (.cells Tryz.zeroCells270 270)).setRow w.heap.size (elP n st f)) :=
 stElP_at (heap_alloc_new w _) (by rw [zeroElP,size_elP]) (size_elP _ _ _) (elP_one _ _ _)
theorem el_st_at (w:World) (n:Nat) (st:Bool) (f:Nat→Bool):((w.alloc (.cells Tryz.zeroCells270 270)).setRow w.heap.size (elP n st f)).heap[w.heap.size]? = some (.cells (elP n st f) 270 (0,0)):=setRow_heap _ _ _ _ _ _ (heap_alloc_new w _)
theorem el_st_below (w:World) (n:Nat) (st:Bool) (f:Nat→Bool):Below w.heap.size w ((w.alloc (.cells Tryz.zeroCells270 270)).setRow w.heap.size (elP n st f)) :=
 (below_alloc w _).grown (grown_setRow _ _ _) (by simp) (fun j e=>by cases e;exact Nat.le_refl _)
attribute [local go_sem ↓] ld_set st_set bd_set' ld_elP st_elP bd_elP bs_elP
theorem lt_self2 (a:Int):(a<a+1)=True:=eq_true (by omega)
attribute [local go_sem] lt_self2
set_option maxHeartbeats 8000000 in
theorem PAlts_any (p:ByteArray) (g:Nat) (w:World) (hp:p.size≤256) (hpr:printS (L p)=true) (hg:w.heap[g]? = some (rdr p 0)) :
 Calls Tryz.prog 197 #[.pointer (some ⟨g,0,none⟩)] w (PAltPost p g w):=by
 have hglt:=blk_lt' hg
 have HP:=Lib.hid hpr
 have HR0:Hid ((w.alloc (.cells #[.slice none 0 0] 238)).heap[g]? = some (rdr p 0)):=Lib.hid ((heap_alloc_old _ _ hglt).trans hg)
 have HGl:Hid (globP (L p)=globK (L p) [] []):=Lib.hid rfl
 clear hpr hg
 go_enter Tryz.func197,Tryz.ntmps197
 go_wp2
 go_loopg [2,3,4,5,6,7,8] (p.size+1) (fun gk s2 s3 s4 _ _ _ _ wr=>∃ (i c go:Nat) (us:List Value) (x:Value) (ms:List (List El)) (cur:List El),s2=.slice none 0 0∧s3=.bool false∧s4=.slice (some ⟨go,0,none⟩) (us.length+1) c∧i+gk=p.size+1∧i≤p.size∧us.length+cur.length≤i ∧
  Hid (AltsP wr w.heap.size (.slice (some ⟨go,0,none⟩) (us.length+1) c) (us++[x]) (ms++[cur]))∧Hid (w.grownBy wr (some g))∧Hid (wr.heap[g]? = some (rdr p (i:Nat)))∧Hid (globK (L p) [] []=globK ((L p).drop i) ms cur))
 case atStart=>exact ⟨0,1,w.heap.size,[],.slice none 0 0,[],[],rfl,rfl,rfl,by omega,Nat.zero_le _,Nat.le_refl _,NstV.first (Nat.le_refl _),World.grownBy_alloc _ _ _,HR0.out,rfl⟩
 case round =>
  obtain ⟨i,c,go,us,x,ms,cur,rfl,rfl,rfl,hig,hi,hul,hN,hG,hR,hK⟩:=hrel
  have c0:=cellOf (j:=0) (u:=.string p) hR.out rfl
  have c1:=cellOf (j:=1) (u:=.int .i64 (i:Nat)) hR.out rfl
  have f1:=frozen_of_row _ _ 1 _ _ hR.out
  by_cases hlt0:i<p.size
  · have hlt : (i:Int)<(p.size:Int):=by omega
    have hp127:=printS_drop HP.out i hlt0
    have hdr:=drop_cons p i hlt0
    go_upto_region 3 with (go_quiet (fail))
    go_cut [5] from 20 to 28 (fun s5 wx=>s5=.int .u8 (p[i].toNat:Int)∧Hid (AltsP wx w.heap.size (.slice (some ⟨go,0,none⟩) (us.length+1) c) (us++[x]) (ms++[cur]))∧Hid (w.grownBy wx (some g))∧Hid (wx.heap[g]? = some (rdr p (i:Nat))))
    case first =>
     go_quiet (fail)
     go_wp2
     go_meet
     exact ⟨rfl,hN.out.below (below_drewN (below_drewN (Below.refl _ _) _) _),grown_tr (grown_tr hG.out (grown_drewN _ _ _)) (grown_drewN _ _ _),hR.out⟩
    case rest =>
    obtain ⟨rfl,hN2,hG2,hR2⟩:=hcut
    clear hN hG hR c0 c1 f1
    have c1:=cellOf (j:=1) (u:=.int .i64 (i:Nat)) hR2.out rfl
    have f1:=frozen_of_row _ _ 1 _ _ hR2.out
    obtain ⟨W1,hW1⟩:∃ W1,wc.setCell ⟨g,1,none⟩ (.int .i64 ((i:Int)+1))=W1:=⟨_,rfl⟩
    have hR3:W1.heap[g]? = some (rdr p ((i:Int)+1)):=by rw [←hW1];exact rd_set hR2.out
    have hG3:w.grownBy W1 (some g):=by rw [←hW1];exact grown_tr hG2.out (grown_set _ _ _ _)
    have hN3:AltsP W1 w.heap.size (.slice (some ⟨go,0,none⟩) (us.length+1) c) (us++[x]) (ms++[cur]):=by rw [←hW1];exact hN2.out.other (grown_set _ _ _ _) (fun k e=>by cases e;exact Or.inl hglt)
    have hs1:W1.heap.size=wc.heap.size:=by rw [←hW1];simp [World.setCell]
    have hst:=el_st W1 p[i].toNat false (fun _=>false)
    have hbd:=bdElP_lit p[i].toNat W1
    obtain ⟨W2,hW2⟩:∃ W2,(W1.alloc (.cells Tryz.zeroCells270 270)).setRow W1.heap.size (elP p[i].toNat false (fun _=>false))=W2:=⟨_,rfl⟩
    have hb2:Below W1.heap.size W1 W2:=by rw [←hW2];exact el_st_below _ _ _ _
    have hE2:W2.heap[W1.heap.size]? = some (.cells (elP p[i].toNat false (fun _=>false)) 270 (0,0)):=by rw [←hW2];exact el_st_at _ _ _ _
    rw [hW2] at hst
    have HR:=Lib.hid ((hb2.block g (blk_lt' hR3)).trans hR3)
    have HG:=Lib.hid (grown_tr hG3 (grown_below hb2 _))
    have HN:=Lib.hid (hN3.below hb2)
    have HF:=Lib.hid (hN3.fresh (Nat.le_refl W1.heap.size))
    have hEb:w.heap.size≤W1.heap.size:=hG3.size
    have hgE:g<W1.heap.size:=blk_lt' hR3
    rw [hs1] at hst hE2 HF hEb hgE
    have HE2:=Lib.hid hE2
    have HW1:=Lib.hid hW1
    clear hN2 hG2 hR2 hR3 hG3 hN3 hE2 hb2 hW2
    go_upto_block 2 with fail
    clear hW1 HW1
    generalize wc.heap.size=E at *
    clear hs1
    by_cases h124:p[i]=124
    · have e124:((p[i].toNat:Int) == 124)=true:=by rw [h124];rfl
      have hK2:=hK.out
      rw [hdr,h124,globK_bar] at hK2
      have HK:=Lib.hid hK2
      have ho:=HN.out.outer
      rw [List.length_append,List.length_singleton] at ho
      have HO:=Lib.hid ho
      obtain ⟨i1,hi0,hz0,hz1,hz2⟩:=info_parts slPInfo
      have Hi0:=Lib.hid hi0
      have Hz0:=Lib.hid hz0
      have Hz1:=Lib.hid hz1
      have Hz2:=Lib.hid hz2
      have hws:=HG.out.size
      have hgr:=HR.out
      have hgl2:=blk_lt' hgr
      clear hK hK2 ho hi0 hz0 hz1 hz2 h124 hdr HE2 HF hst hbd hgr
      go_wp2_with (refine wpList_append_lies _ rfl _ _ _ (by rfl) w.heap.size 238 i1 _ 1 24 Tryz.underlying235 Hi0.out Hz0.out Hz1.out Hz2.out rfl (by omega) (.slice (some ⟨go,0,none⟩) (us.length+1) c) (us.length+1) (us++[x]) (by rfl) (own_below HO.out (by go_grown)) _ 1 1 [.slice none 0 0] (by rfl) (by rfl) (by exact World.news_of_block (B:=W2.heap.size) (heap_alloc_new _ _)) (by simp [Value.oneCell']) (by omega) (by unfold maxLen;omega) (by omega) (by simp;omega) _ rfl ?_;intro g2 cap w2 hown2 hgrow2 hat2 hlt2)
      have HN3:=Lib.hid ((HN.out.below (below_alloc _ _)).pushNil (A:=some ⟨g2,0,none⟩) (c:=cap) rfl (by simpa using hown2) hgrow2 hat2)
      have HG3:=Lib.hid (grown_far (grown_tr HG.out (World.grownBy_alloc _ _ _)) hgrow2 (fun k hk=>Or.inl (HO.out.lt k hk).1))
      have HR3:=Lib.hid ((hgrow2.block g (by simp;omega) (fun e=>by have:=(HO.out.lt g e.symm).1;omega)).trans ((heap_alloc_old _ _ hgl2).trans HR.out))
      clear hown2 hgrow2 hat2
      go_wp2
      go_roundg (gk - 1)
      case measure=>omega
      case rel=>exact ⟨i+1,cap,g2,us++[x],.slice none 0 0,ms++[cur],[],rfl,rfl,by simp,by omega,by omega,by simp;omega,HN3.out,HG3.out,HR3.out,HK.out⟩
    · have e124:((p[i].toNat:Int) == 124)=false:=by
       rw [beq_eq_false_iff_ne];intro e;exact h124 (UInt8.toNat_inj.1 (Int.ofNat.inj e))
      go_cut [2,3,4,7,8] from 42 to 65 (fun s2 s3 s4 _ _ wx=>s2=.slice none 0 0∧s3=.bool false∧s4=.slice (some ⟨go,0,none⟩) (us.length+1) c∧∃ (j:Nat) (e:El),i+1≤j∧j≤p.size∧Hid (elS p[i] ((L p).drop (i+1))=some (e,(L p).drop j))∧Hid (wx.heap[g]? = some (rdr p (j:Nat)))∧Hid (wx.heap[E]? = some (.cells (elP e.litN e.isStar e.has) 270 (0,0))) ∧
       Hid (AltsP wx w.heap.size (.slice (some ⟨go,0,none⟩) (us.length+1) c) (us++[x]) (ms++[cur]))∧Hid (w.grownBy wx (some g)))
      case first =>
       have c5:=cellOf HE2.out (elP_get _ _ _ p[i].toNat (by omega))
       have f5:=frozen_of_row _ _ (2+p[i].toNat) _ _ HE2.out
       by_cases h42:p[i]=42
       · have e42:((p[i].toNat:Int) == 42)=true:=by rw [h42];rfl
         have HEl:Hid (elS p[i] ((L p).drop (i+1))=some (.star,(L p).drop (i+1))):=Lib.hid (by rw [h42];rfl)
         clear h42 h124 hdr hst hbd
         go_wp2_with (go_at_call 231;refine (every_any _).mono ?_;rintro e w3 ⟨rfl,hb3⟩;have hbd:=bdElP_star allB w3;have hE3:=(hb3.block _ (blk_lt' HE2.out)).trans HE2.out;have hst:=stElP_at hE3 (size_elP _ _ _) (size_elP 0 true allB) (elP_one 0 true allB);have HB3:=Lib.hid hb3;have HE3:=Lib.hid hE3;clear hb3 hE3)
         go_meet
         exact ⟨rfl,rfl,rfl,i+1,.star,Nat.le_refl _,hlt0,HEl.out,(by rw [setRow_other _ _ _ _ (by omega)];exact (HB3.out.block g (blk_lt' HR.out)).trans HR.out),setRow_heap _ _ _ _ _ _ HE3.out,(HN.out.below HB3.out).beside (grown_setRow _ _ _) HF,grown_far (grown_tr HG.out (grown_below HB3.out _)) (grown_setRow _ _ _) (fun k e=>by cases e;exact Or.inl hEb)⟩
       have e42:((p[i].toNat:Int) == 42)=false:=by
        rw [beq_eq_false_iff_ne];intro e;exact h42 (UInt8.toNat_inj.1 (Int.ofNat.inj e))
       by_cases h63:p[i]=63
       · have e63:((p[i].toNat:Int) == 63)=true:=by rw [h63];rfl
         have HEl:Hid (elS p[i] ((L p).drop (i+1))=some (.any,(L p).drop (i+1))):=Lib.hid (by rw [h63];rfl)
         clear h63 h42 h124 hdr hst hbd
         go_wp2_with (go_at_call 231;refine (every_any _).mono ?_;rintro e w3 ⟨rfl,hb3⟩;have hbd:=bdElP_set allB w3;have hE3:=(hb3.block _ (blk_lt' HE2.out)).trans HE2.out;have hst:=stElP_at hE3 (size_elP _ _ _) (size_elP 0 false allB) (elP_one 0 false allB);have HB3:=Lib.hid hb3;have HE3:=Lib.hid hE3;clear hb3 hE3)
         go_meet
         exact ⟨rfl,rfl,rfl,i+1,.any,Nat.le_refl _,hlt0,HEl.out,(by rw [setRow_other _ _ _ _ (by omega)];exact (HB3.out.block g (blk_lt' HR.out)).trans HR.out),setRow_heap _ _ _ _ _ _ HE3.out,(HN.out.below HB3.out).beside (grown_setRow _ _ _) HF,grown_far (grown_tr HG.out (grown_below HB3.out _)) (grown_setRow _ _ _) (fun k e=>by cases e;exact Or.inl hEb)⟩
       have e63:((p[i].toNat:Int) == 63)=false:=by
        rw [beq_eq_false_iff_ne];intro e;exact h63 (UInt8.toNat_inj.1 (Int.ofNat.inj e))
       by_cases h91:p[i]=91
       · have e91:((p[i].toNat:Int) == 91)=true:=by rw [h91];rfl
         have hels:elS p[i] ((L p).drop (i+1))=setS ((L p).drop (i+1)):=by rw [h91];rfl
         have hset:=PGSet_any p (i+1) g W2 hp HP.out hlt0 HR.out
         unfold PSetPost at hset
         cases hs:setS ((L p).drop (i+1)) with
         | none =>
           rw [hs] at hset hels
           have hK2:=hK.out
           rw [hdr,globK_no _ _ _ _ h124 hels] at hK2
           have HK:=Lib.hid hK2
           have HSet:=Lib.hid hset
           clear hset hels hs hdr hK hK2 h124 h42 h63 h91 hst hbd
           go_wp2_with (go_at_call 232;refine HSet.out.mono ?_;rintro e w3 ⟨hg3,rfl⟩;have hst:=alloc_st w3 (fun _=>false))
           go_ret2
           unfold PAltPost
           rw [HGl.out,HK.out]
           exact ⟨alloc_st_grown _ (grown_tr HG.out hg3),rfl⟩
         | some y =>
           obtain ⟨⟨no,rs,e1⟩,m,m1,m2,e2⟩:=setS_suf _ _ hs
           obtain ⟨e,r'⟩:=y
           dsimp only at e1 e2
           have hl0:El.litN e=0∧El.isStar e=false:=by rw [e1];exact ⟨rfl,rfl⟩
           rw [List.drop_drop] at e2
           rw [List.length_drop,len_L] at m2
           subst e2
           rw [hs] at hset hels
           dsimp only at hset
           rw [List.length_drop,len_L,show ((p.size:Int) - ((p.size - (i+1+m):Nat):Int))=((i+1+m:Nat):Int) from by omega] at hset
           have HEl:=Lib.hid hels
           have HSet:=Lib.hid hset
           clear hset hels hs hdr h124 h42 h63 h91 hst hbd e1
           go_wp2_with (go_at_call 232;refine HSet.out.mono ?_;rintro e9 w3 ⟨hg3,rfl,hr3⟩;have hst:=alloc_st w3 e.has;have hl:=ldGs_at (alloc_st_at w3 e.has) (size_boolA _ _);have hbd:=bdElP_set e.has ((w3.alloc (.cells Tryz.zeroCells268 268)).setRow w3.heap.size (boolA 127 e.has));have hE3:=alloc_st_old w3 e.has ((hg3.block E (blk_lt' HE2.out) (by intro x;have:=Option.some.inj x;omega)).trans HE2.out);have hst2:=stElP_at hE3 (size_elP _ _ _) (size_elP 0 false e.has) (elP_one 0 false e.has);have HE3:=Lib.hid hE3;have HG3:=Lib.hid hg3;have HR3:=Lib.hid hr3;clear hE3 hg3 hr3)
           go_meet
           refine ⟨rfl,rfl,rfl,i+1+m,e,by omega,by omega,HEl.out,?_,?_,?_,grown_far (alloc_st_grown _ (grown_tr HG.out HG3.out)) (grown_setRow _ _ _) (fun k e=>by cases e;exact Or.inl hEb)⟩
           · show _=_
             rw [setRow_other _ _ _ _ (by omega)]
             exact alloc_st_old w3 _ HR3.out
           · show _=_
             rw [hl0.1,hl0.2]
             exact setRow_heap _ _ _ _ _ _ HE3.out
           · refine NstV.beside ?_ (grown_setRow _ _ _) HF
             exact (HN.out.other HG3.out (fun k x=>by cases x;exact Or.inl hglt)).other (alloc_st_grown (row:=none) _ (grown_refl w3 none)) (fun k x=>by cases x)
       · have e91:((p[i].toNat:Int) == 91)=false:=by
          rw [beq_eq_false_iff_ne];intro e;exact h91 (UInt8.toNat_inj.1 (Int.ofNat.inj e))
         have HEl:Hid (elS p[i] ((L p).drop (i+1))=some (.lit p[i],(L p).drop (i+1))):=Lib.hid (by rw [elS,if_neg h42,if_neg h63,if_neg h91])
         have hs1:=setCell_known HE2.out (elP_set p[i].toNat false (fun _=>false) p[i].toNat true)
         have e:elP p[i].toNat false (fun d=>if d=p[i].toNat then true else false)=elP (El.litN (.lit p[i])) (El.isStar (.lit p[i])) (El.has (.lit p[i])):=elP_congr fun d _=>by
          show _=(p[i].toNat == d)
          by_cases h:d=p[i].toNat
          · rw [if_pos h,h];simp
          · rw [if_neg h];simp;exact fun x=>h x.symm
         rw [e] at hs1
         have HE3:=Lib.hid hs1
         clear h42 h124 h63 h91 hdr hs1 e hst hbd
         go_wp2
         go_meet
         exact ⟨rfl,rfl,rfl,i+1,.lit p[i],Nat.le_refl _,hlt0,HEl.out,rd_other HR.out (by omega),HE3.out,HN.out.beside (grown_set _ _ _ _) HF,grown_far HG.out (grown_set _ _ _ _) (fun k e=>by cases e;exact Or.inl hEb)⟩
      case rest =>
       obtain ⟨rfl,rfl,rfl,j,e,hj1,hj2,hel,hRj,hE,hN,hG⟩:=hcut
       have hK2:=hK.out
       rw [hdr,globK_el _ _ _ _ h124 e _ hel.out] at hK2
       have HK:=Lib.hid hK2
       have ho:=hN.out.outer
       simp only [List.length_append,List.length_singleton] at ho
       have hcx:=ho.cellAt us.length (by omega)
       rw [List.getElem?_append_right (Nat.le_refl _),Nat.sub_self,List.getElem?_cons_zero] at hcx
       have hfx:=ho.frozenAt us.length
       have hlm:us.length=ms.length:=by have:=hN.out.len;simpa using this
       have hin:=hN.out.inner us.length x cur (by simp) (by rw [hlm];simp)
       have HLm:=Lib.hid hlm
       clear hlm
       have HI:=Lib.hid hin
       have hsz:=size_elP e.litN e.isStar e.has
       have he:=ldElP_at (w:=wc.drew) (g:=E) hE.out hsz
       have hall:∀ u∈(elP e.litN e.isStar e.has).toList,u.oneCell'=true:=fun u hu=>Array.all_eq_true_iff_forall_mem.1 (elP_one e.litN e.isStar e.has) u (by simpa using hu)
       have hbs:=bsElP_at _ hsz
       have henc:(elP e.litN e.isStar e.has).toList=encEP e:=rfl
       generalize elP e.litN e.isStar e.has=cs at *
       have HSz:=Lib.hid hsz
       have HAll:=Lib.hid hall
       have HEnc:=Lib.hid henc
       clear hK hK2 ho hin hsz hall henc hdr h124 e124 hE HE2 HN HF hel hst hbd HR HG
       have hxo:some go≠x.ownBlock:=fun e=>hN.out.off us.length x go (by simp) e.symm rfl
       have HX:=Lib.hid hxo
       have hwc:=hG.out.size
       have hgo:=(hN.out.outer.lt go rfl).2
       obtain ⟨i0,z,hi0,hz0,hz1,hz2,hz3⟩:=elPParts
       have Hi0:=Lib.hid hi0
       have Hz0:=Lib.hid hz0
       have Hz1:=Lib.hid hz1
       have Hz2:=Lib.hid hz2
       have Hz3:=Lib.hid hz3
       clear hxo hi0 hz0 hz1 hz2 hz3
       have hwr:IntKind.i64.wrap (us.length:Int)=(us.length:Int):=by rw [IntKind.wrap_i64];omega
       go_wp2
       go_region_law (first | (refine step_append_lies _ (by rfl) _ _ _ (by rfl) w.heap.size 270 i0 z 129 129 Tryz.underlying238 Hi0.out Hz0.out Hz1.out Hz2.out Hz3.out (by omega) x cur.length (cellsOf encEP cur) (by rfl) (own_below HI.out (by go_grown)) _ 1 1 cs.toList (by rfl) (by have:=HSz.out;simp [this]) (by exact World.news_of_block (B:=wc.heap.size) (heap_alloc_new _ _)) HAll.out (by omega) (by unfold maxLen;omega) (by omega) (by simp;omega) _ rfl ?_;intro g2 cap w2 hown2 hgrow2 hat2 hlt2;have c2:=((grown_below (by go_grown:Below wc.heap.size wc _) _).trans hgrow2).cell (a:=⟨go,us.length,none⟩) hcx HX.out;have f2:=(((grown_below (by go_grown:Below wc.heap.size wc _) _).trans hgrow2).frozen_far ⟨go,us.length,none⟩ hgo HX.out).trans hfx))
       all_goals
        rw [HEnc.out] at hown2
        have hgb:=(hN.out.outer.lt go rfl).1
        have HN3:=Lib.hid ((hN.out.below (by go_grown)).appendLast hown2 hgrow2 hat2)
        have HG3:=Lib.hid (grown_far (grown_far (grown_tr hG.out (grown_below (by go_grown) _)) hgrow2 (fun k hk=>Or.inl (HI.out.lt k hk).1)) (grown_set _ go us.length (.slice (some ⟨g2,0,none⟩) (cur.length+1) cap)) (fun k x=>by cases x;exact Or.inl hgb))
        have HR3:=Lib.hid (rd_other (g:=go) (i:=us.length) (u:=.slice (some ⟨g2,0,none⟩) (cur.length+1) cap) ((hgrow2.block g (by have:=blk_lt' hRj.out;simp;omega) (fun e=>by have:=(HI.out.lt g e.symm).1;omega)).trans (((show Below wc.heap.size wc _ by go_grown).block g (blk_lt' hRj.out)).trans hRj.out)) (by omega))
        clear hown2 hgrow2 hat2 c2 f2 he hbs hcx hfx hN hG hRj
        go_wp2
        go_roundg (gk - (j - i))
        case measure=>omega
        case rel=>exact ⟨j,c,go,us,_,ms,cur++[e],rfl,rfl,rfl,by omega,by omega,by simp;omega,HN3.out,HG3.out,HR3.out,HK.out⟩
  · have hlt:¬ (i:Int)<(p.size:Int):=by omega
    have hK2:=hK.out
    rw [List.drop_eq_nil_of_le (by rw [len_L];omega),globK_nil] at hK2
    have HK:=Lib.hid hK2
    clear hK2 hK
    go_wp2
    go_quiet (fail)
    go_wp2
    go_ret2
    unfold PAltPost
    rw [HGl.out,HK.out]
    exact ⟨by first | exact grown_tr hG.out (grown_drewN _ _ _) | exact grown_tr (grown_tr hG.out (grown_drewN _ _ _)) (grown_drewN _ _ _),_,rfl,⟨_,hN.out.below (below_drewN (Below.refl _ _) _)⟩⟩
end
section
open Go.RowKit
def PGParsePost (s:Str) (w:World) (e:Ending) (w':World):Prop:=Below w.heap.size w w' ∧
 match globS s with
 | none=>∃ n:Int,e=.returned (.tuple #[.slice none 0 0,.int .i64 n])∧n=globE s
 | some alts=>∃ v,e=.returned (.tuple #[v,.int .i64 0])∧Nst 238 270 129 encEP w' w.heap.size v alts
theorem own_lower {w:World} {base base' kk n:Nat} {e:TypeId} {v:Value} {xs:List Value} (h:w.ownsRow base' e kk v n xs) (hb:base≤base'):w.ownsRow base e kk v n xs:=by
 refine ⟨h.1,?_⟩
 rcases h.2 with h1 | ⟨g,cap,cur,h1,h2,h3⟩
 · exact Or.inl h1
 · exact Or.inr ⟨g,cap,cur,h1,Nat.le_trans hb h2,h3⟩
theorem Nst_down {w:World} {a b:Nat} {v:Value} {l:List (List El)} (h:Nst 238 270 129 encEP w a v l) (hb:b≤a):Nst 238 270 129 encEP w b v l:=by
 obtain ⟨vs,hN⟩:=h
 exact ⟨vs,hN.len,own_lower hN.outer hb,fun i x l hx hl=>own_lower (hN.inner i x l hx hl) hb,hN.off,hN.apart⟩
set_option maxHeartbeats 1000000 in
theorem PGParse_any (p:ByteArray) (w:World) (hsz:p.size≤9223372036854775807):Calls Tryz.prog 166 #[.string p] w (PGParsePost (L p) w):=by
 by_cases h256:256<p.size
 · have hI:(256:Int)<(p.size:Int):=by omega
   have hE:globE (L p)=21:=by rw [globE,len_L,if_pos h256]
   have hS:globS (L p)=none:=by rw [globS,if_neg (fun h=>by have:=h.1;rw [len_L] at this;omega)]
   have HE:=Lib.hid hE
   have HS:=Lib.hid hS
   clear hE hS
   go_enter Tryz.func166,Tryz.ntmps166
   go_wp2
   go_ret2
   refine ⟨Below.refl _ _,?_⟩
   rw [HS.out]
   exact ⟨21,rfl,HE.out.symm⟩
 · have hI:¬ (256:Int)<(p.size:Int):=by omega
   have hT:=Text_any p w hsz
   have htx:textS (L p)=printS (L p):=by rw [textS,len_L,decide_eq_true (by omega),Bool.and_true]
   rw [htx] at hT
   have hge:=globE_le (s:=L p) (by rw [len_L];omega)
   cases hpr:printS (L p) with
   | false =>
     rw [hpr] at hT hge
     have HT:=Lib.hid hT
     have HE:Hid (globE (L p)=20):=Lib.hid (by rw [hge];rfl)
     have HS:Hid (globS (L p)=none):=Lib.hid (by rw [globS,if_neg (fun h=>by rw [hpr] at h;cases h.2)])
     clear hT hge hpr htx
     go_enter Tryz.func166,Tryz.ntmps166
     go_wp2_with (go_at_call 196;refine HT.out.mono ?_;rintro e w' ⟨rfl,rfl⟩)
     go_ret2
     refine ⟨Below.refl _ _,?_⟩
     rw [HS.out]
     exact ⟨20,rfl,HE.out.symm⟩
   | true =>
     rw [hpr] at hT hge
     simp only [if_true] at hge
     have HT:=Lib.hid hT
     have HGs:Hid (globS (L p)=globP (L p)):=Lib.hid (by rw [globS,if_pos ⟨by rw [len_L];omega,hpr⟩])
     have hA:=PAlts_any p w.heap.size (w.alloc (rdr p 0)) (by omega) hpr (heap_alloc_new w _)
     unfold PAltPost at hA
     cases hg:globP (L p) with
     | none =>
       rw [hg] at hA hge HGs
       have HA:=Lib.hid hA
       have HE:Hid (globE (L p)=20):=Lib.hid (by rw [hge];rfl)
       clear hT hge hpr htx hA hg
       go_enter Tryz.func166,Tryz.ntmps166
       go_wp2_with (first | (go_at_call 196;refine HT.out.mono ?_;rintro e w' ⟨rfl,rfl⟩) | (go_at_call 197;refine HA.out.mono ?_;rintro e w2 ⟨hg2,rfl⟩))
       go_ret2
       refine ⟨(below_alloc w _).grown hg2 (by simp) (fun j e=>by cases e;exact Nat.le_refl _),?_⟩
       rw [HGs.out]
       exact ⟨20,rfl,HE.out.symm⟩
     | some alts =>
       rw [hg] at hA HGs
       have HA:=Lib.hid hA
       clear hT hge hpr htx hA hg
       go_enter Tryz.func166,Tryz.ntmps166
       go_wp2_with (first | (go_at_call 196;refine HT.out.mono ?_;rintro e w' ⟨rfl,rfl⟩) | (go_at_call 197;refine HA.out.mono ?_;rintro e w2 ⟨hg2,v,rfl,hN⟩))
       go_ret2
       refine ⟨(below_alloc w _).grown hg2 (by simp) (fun j e=>by cases e;exact Nat.le_refl _),?_⟩
       rw [HGs.out]
       exact ⟨v,rfl,Nst_down hN (by simp)⟩
end
section
open Go.RowKit
theorem elP_1 (n:Nat) (st:Bool) (f:Nat→Bool):(elP n st f)[1]? = some (.bool st):=by
 rw [elP,Array.getElem?_append_left (by simp)]
 rfl
theorem encEP_star (x:El):(encEP x)[1]? = some (.bool x.isStar):=by
 rw [encEP,Array.getElem?_toList,elP_1]
theorem encEP_has (x:El) {c:Nat} (h:c<127):(encEP x)[2+c]? = some (.bool (x.has c)):=by
 rw [encEP,Array.getElem?_toList,elP_get _ _ _ c h]
theorem el_cells {w wr:World} {B:Nat} {A:Option Addr} {l:List El} (h:RowAt w B A 129 l.length (cellsOf encEP l)) (hb:Below B w wr) {k:Nat} (hlt:k<l.length) :
 ∃ ba off,A=some ⟨ba,off,none⟩∧wr.cell? ⟨ba,off+k*129+1,none⟩=some (.bool l[k].isStar)∧∀ c,c<127→wr.cell? ⟨ba,off+k*129+2+c,none⟩=some (.bool (l[k].has c)):=by
 obtain ⟨ba,off,hA,hba,hc⟩:=h.cell encEP_len hlt
 have hx:l[k]? = some l[k]:=List.getElem?_eq_getElem hlt
 refine ⟨ba,off,hA,?_,fun c hc'=>?_⟩
 · rw [hb.cell (p:=⟨ba,off+k*129+1,none⟩) hba]
   exact hc k _ hx 1 _ (encEP_star _)
 · rw [hb.cell (p:=⟨ba,off+k*129+2+c,none⟩) hba,show off+k*129+2+c=off+(k*129+(2+c)) from by omega]
   exact hc k _ hx (2+c) _ (encEP_has _ hc')
def gMu (L n:Nat) (st:Option (Nat × Nat)) (i:Nat):Nat:=match st with
 | none=>(L+1)*((n+2)*(n+2))+(n - i)
 | some (k,f)=>(L - k)*((n+2)*(n+2))+(n - f)*(n+2)+(n - i)
theorem gMu_low {n i:Nat}:(n - i)*(n+2)+(n - i)<(n+2)*(n+2):=by
 have h1:(n - i)*(n+2)≤n*(n+2):=Nat.mul_le_mul_right _ (Nat.sub_le _ _)
 have h2:(n+2)*(n+2)=n*(n+2)+2*(n+2):=Nat.add_mul _ _ _
 omega
theorem gMu_star {L n a i:Nat} {st:Option (Nat × Nat)} (ha:a<L) (hst:∀ k f,st=some (k,f)→k<a):gMu L n (some (a,i)) i<gMu L n st i:=by
 have h0:=gMu_low (n:=n) (i:=i)
 generalize hQ:(n+2)*(n+2)=Q at *
 cases st with
 | none =>
   unfold gMu
   rw [hQ]
   have:(L - a)*Q+Q≤(L+1)*Q:=by
    have:=Nat.mul_le_mul_right Q (show L - a+1≤L+1 by omega)
    rw [Nat.add_mul,Nat.one_mul] at this
    exact this
   dsimp only
   omega
 | some x =>
   obtain ⟨k,f⟩:=x
   have hk:=hst k f rfl
   unfold gMu
   rw [hQ]
   have:(L - a)*Q+Q≤(L - k)*Q:=by
    have:=Nat.mul_le_mul_right Q (show L - a+1≤L - k by omega)
    rw [Nat.add_mul,Nat.one_mul] at this
    exact this
   dsimp only
   omega
theorem gMu_byte {L n i:Nat} {st:Option (Nat × Nat)} (hi:i<n):gMu L n st (i+1)<gMu L n st i:=by
 unfold gMu
 cases st <;> (dsimp only;omega)
theorem gMu_back {L n k f i:Nat} (hf:f≤i) (hi:i<n):gMu L n (some (k,f+1)) (f+1)<gMu L n (some (k,f)) i:=by
 unfold gMu
 dsimp only
 have h1:(n - f)*(n+2)=(n - (f+1))*(n+2)+(n+2):=by
  rw [show n - f=(n - (f+1))+1 by omega,Nat.add_mul,Nat.one_mul]
 omega
def stI (st:Option (Nat × Nat)):Int:=match st with
 | none => -1
 | some (k,_)=>k
def frI (st:Option (Nat × Nat)):Int:=match st with
 | none=>0
 | some (_,f)=>f
set_option maxHeartbeats 4000000 in
theorem Gmatches_any (A:Option Addr) (c:Nat) (l:List El) (s:ByteArray) (w:World) (hl:l.length≤1000000) (hsz:s.size≤9223372036854775806) (h:RowAt w w.heap.size A 129 l.length (cellsOf encEP l)) (hb:∀ i,(hi:i<s.size)→s[i].toNat<127) :
 Calls Tryz.prog 167 #[.slice A l.length c,.string s] w fun e w'=>e=.returned (.bool (altB l (L s)))∧Below w.heap.size w w':=by
 have H:=Lib.hid h
 have HBy:=Lib.hid hb
 have HSt:=Lib.hid (Greedy.start El.isStar hasB l (L s))
 have HLs:=Lib.hid (len_L s)
 have HGt:Hid (∀ i,(h:i<s.size)→∃ h2:i<(L s).length,(L s)[i]=s[i]):=Lib.hid fun i h=>⟨by rw [len_L];exact h,rfl⟩
 clear h hb
 obtain ⟨N,hN⟩:∃ N,l.length=N:=⟨_,rfl⟩
 have HN:=Lib.hid hN
 rw [hN] at hl ⊢
 clear hN
 go_enter Tryz.func167,Tryz.ntmps167
 go_wp2_with fail
 go_loopg [5,6,7,8] (gMu N s.size none 0+1) (fun gk s5 s6 s7 s8 wr=>∃ (a i:Nat) (st:Option (Nat × Nat)),s5=.int .i64 a∧s6=.int .i64 (stI st)∧s7=.int .i64 (frI st)∧s8=.int .i64 i∧gk=gMu N s.size st i+1∧a≤N∧i≤s.size∧Hid (Greedy El.isStar hasB l (L s) a i st)∧Hid (Below w.heap.size w wr))
 case atStart=>exact ⟨0,0,none,rfl,rfl,rfl,rfl,rfl,Nat.zero_le _,Nat.zero_le _,HSt.out,Below.refl _ _⟩
 case round =>
  obtain ⟨a,i,st,rfl,rfl,rfl,rfl,rfl,haN,hiN,hG,hB⟩:=hrel
  have hstk:∀ k f,st=some (k,f)→k<a∧f≤i:=fun k f e=>⟨(hG.out.last k f e).1,(hG.out.last k f e).2.2.1⟩
  by_cases hi:i<s.size
  · have hiI:(i:Int)<(s.size:Int):=by omega
    obtain ⟨hi2,hie⟩:=HGt.out i hi
    have hby:=HBy.out i hi
    by_cases ha:a<N
    · have haI:(a:Int)<(N:Int):=by omega
      have ha2:a<l.length:=by rw [HN.out];exact ha
      obtain ⟨ba,off,rfl,c1,ch⟩:=el_cells H.out hB.out ha2
      have c2:=ch (s[i]'hi).toNat hby
      cases hs:l[a].isStar with
      | true =>
        rw [hs] at c1
        have HG2:=Lib.hid (hG.out.atStar ha2 hs)
        have hmu:=gMu_star (L:=N) (n:=s.size) (i:=i) (a:=a) ha (fun k f e=>(hstk k f e).1)
        clear c2 ch hs ha2 hi2 hie hby
        go_wp2
        go_roundg (gMu N s.size (some (a,i)) i+1)
        case measure=>omega
        case rel=>exact ⟨a+1,i,some (a,i),by go_num,rfl,rfl,rfl,rfl,by omega,hiN,HG2.out,hB.out⟩
      | false =>
        rw [hs] at c1
        cases hh:l[a].has (s[i]'hi).toNat with
        | true =>
          rw [hh] at c2
          have HG2:=Lib.hid (hG.out.atByte ha2 hi2 hs (by unfold hasB;rw [hie];exact hh))
          have hmu:=gMu_byte (L:=N) (st:=st) hi
          clear ch hs hh ha2 hi2 hie
          go_wp2
          go_quiet (fail)
          go_wp2
          go_roundg (gMu N s.size st (i+1)+1)
          case measure=>omega
          case rel=>exact ⟨a+1,i+1,st,by go_num,rfl,rfl,by go_num,rfl,by omega,by omega,HG2.out,below_drewN hB.out _⟩
        | false =>
          rw [hh] at c2
          have hdead:∀ h:a<l.length,l[a].isStar=false∧hasB l[a] (L s)[i]=false:=fun _=>⟨hs,by unfold hasB;rw [hie];exact hh⟩
          cases st with
          | none =>
            have HF:=Lib.hid (hG.out.fails hi2 hdead)
            clear ch hs hh ha2 hi2 hie hdead
            unfold stI frI
            go_wp2
            go_quiet (fail)
            go_wp2
            go_ret
            exact ⟨by unfold altB;rw [HF.out];rfl,below_drewN hB.out _⟩
          | some x =>
            obtain ⟨k,f⟩:=x
            have HG2:=Lib.hid (hG.out.goBack hi2 hdead)
            have hkf:=hstk k f rfl
            have hmu:=gMu_back (L:=N) (k:=k) hkf.2 hi
            clear ch hs hh ha2 hi2 hie hdead hstk
            unfold stI frI
            go_wp2
            go_quiet (fail)
            go_wp2
            go_roundg (gMu N s.size (some (k,f+1)) (f+1)+1)
            case measure=>omega
            case rel=>exact ⟨k+1,f+1,some (k,f+1),by go_num,rfl,by unfold frI;go_num,by go_num,rfl,by omega,by omega,HG2.out,below_drewN hB.out _⟩
    · obtain rfl:a=N:=by omega
      have hdead:∀ h:a<l.length,l[a].isStar=false∧hasB l[a] (L s)[i]=false:=fun h=>absurd h (by rw [HN.out];exact Nat.lt_irrefl _)
      cases st with
      | none =>
        have HF:=Lib.hid (hG.out.fails hi2 hdead)
        clear hi2 hie hdead
        unfold stI frI
        go_wp2
        go_quiet (fail)
        go_wp2
        go_ret
        exact ⟨by unfold altB;rw [HF.out];rfl,below_drewN hB.out _⟩
      | some x =>
        obtain ⟨k,f⟩:=x
        have HG2:=Lib.hid (hG.out.goBack hi2 hdead)
        have hkf:=hstk k f rfl
        have hmu:=gMu_back (L:=a) (k:=k) hkf.2 hi
        clear hi2 hie hdead hstk
        unfold stI frI
        go_wp2
        go_quiet (fail)
        go_wp2
        go_roundg (gMu a s.size (some (k,f+1)) (f+1)+1)
        case measure=>omega
        case rel=>exact ⟨k+1,f+1,some (k,f+1),by go_num,rfl,by unfold frI;go_num,by go_num,rfl,by omega,by omega,HG2.out,below_drewN hB.out _⟩
  · obtain rfl:i=s.size:=by omega
    have HD:Hid (altB l (L s)=matchS El.isStar hasB (l.drop a) []):=Lib.hid (by
     have:=hG.out
     rw [←HLs.out] at this
     exact this.done)
    clear hstk hi hG
    go_wp2
    go_loopg [5] (N+1 - a) (fun gk s5 wr=>∃ b:Nat,s5=.int .i64 b∧b+gk=N+1∧b≤N∧Hid (altB l (L s)=matchS El.isStar hasB (l.drop b) [])∧Hid (Below w.heap.size w wr))
    case atStart=>exact ⟨a,rfl,by omega,haN,HD.out,hB.out⟩
    case round =>
     obtain ⟨b,rfl,hbg,hbN,hM,hB⟩:=hrel
     by_cases hb:b<N
     · have hbI:(b:Int)<(N:Int):=by omega
       have hb2:b<l.length:=by rw [HN.out];exact hb
       obtain ⟨ba,off,rfl,c1,ce⟩:=el_cells H.out hB.out hb2
       clear ce
       cases hs:l[b].isStar with
       | true =>
         rw [hs] at c1
         have HM2:Hid (altB l (L s)=matchS El.isStar hasB (l.drop (b+1)) []):=Lib.hid (by rw [hM.out,match_nil_star hb2 hs])
         clear hs hb2
         go_wp2
         go_roundg (gk - 1)
         case measure=>omega
         case rel=>exact ⟨b+1,by go_num,by omega,by omega,HM2.out,hB.out⟩
       | false =>
         rw [hs] at c1
         have HM2:Hid (altB l (L s)=false):=Lib.hid (by rw [hM.out,match_nil_end (fun _=>hs) (Nat.le_of_lt hb2)];simp;omega)
         have hbne:¬ (b:Int)=(N:Int):=by omega
         clear hs hb2
         go_wp2
         go_ret
         exact ⟨by rw [HM2.out];simp [hbne],hB.out⟩
     · obtain rfl:b=N:=by omega
       have HM2:Hid (altB l (L s)=true):=Lib.hid (by rw [hM.out,match_nil_end (fun h=>absurd h (by rw [HN.out];exact Nat.lt_irrefl _)) (by rw [HN.out];exact Nat.le_refl _),HN.out];simp)
       go_wp2
       go_ret
       exact ⟨by rw [HM2.out];simp,hB.out⟩
end
section
open Go.RowKit
theorem NstV.altAt {α:Type} {enc:α→List Value} {TO TI:TypeId} {k:Nat} {w:World} {base:Nat} {v:Value} {vs:List Value} {ls:List (List α)} (h:NstV TO TI k enc w base v vs ls) {i:Nat} (hi:i<ls.length) :
 ∃ g cv A c,v=.slice (some ⟨g,0,none⟩) ls.length cv∧g<w.heap.size∧w.cell? ⟨g,i,none⟩=some (.slice A ls[i].length c)∧RowAt w w.heap.size A k ls[i].length (cellsOf enc ls[i]):=by
 have hi2:i<vs.length:=by rw [h.len];exact hi
 obtain ⟨g,cap,hv,hb,hg⟩:=h.outer.form (by omega)
 have ho:=h.outer
 rw [hv] at ho
 have hc:=ho.cellAt i (by omega)
 have hx:vs[i]? = some vs[i]:=List.getElem?_eq_getElem hi2
 have hin:=h.inner i vs[i] ls[i] hx (List.getElem?_eq_getElem hi)
 obtain ⟨A,c,e⟩:=own_slice hin
 refine ⟨g,cap,A,c,by rw [hv,h.len],hg,by rw [hc,hx,e],?_⟩
 rw [e] at hin
 exact RowAt.of_own hin
theorem Nst.slice {α:Type} {enc:α→List Value} {TO TI:TypeId} {k:Nat} {w:World} {base:Nat} {v:Value} {ls:List (List α)} (h:Nst TO TI k enc w base v ls):∃ A c,v=.slice A ls.length c:=by
 obtain ⟨vs,h⟩:=h
 obtain ⟨A,c,e⟩:=own_slice h.outer
 exact ⟨A,c,by rw [e,h.len]⟩
theorem pr_byte {s:ByteArray} (h:printS (L s)=true):∀ i,(hi:i<s.size)→32≤s[i].toNat∧s[i].toNat≤126:=fun i hi=>by
 have h2:i<(L s).length:=by rw [len_L];exact hi
 have h1:=List.all_eq_true.1 h (L s)[i] (List.getElem_mem h2)
 have e:(L s)[i]=s[i]:=rfl
 rw [e] at h1
 simp [pr] at h1
 omega
theorem any_take {α:Type} {f:α→Bool} {l:List α} {i:Nat} (hi:i<l.length):(l.take (i+1)).any f=((l.take i).any f || f l[i]):=by
 rw [List.take_succ_eq_append_getElem hi,List.any_append]
 simp
theorem globE_none {p:Str} (h:globS p=none):globE p≠0:=by
 unfold globE
 split
 · decide
 · rw [h];decide
theorem globM_none {p s:Str} (h:globS p=none):globM p s=false:=by unfold globM;rw [h]
theorem globM_dark {p s:Str} (h:printS s=false):globM p s=false:=by unfold globM;cases globS p <;> simp [h]
theorem globM_some {p s:Str} {alts:List (List El)} (h:globS p=some alts) (hs:printS s=true):globM p s=alts.any fun l=>altB l s:=by unfold globM;rw [h,hs];simp
theorem print_at {s:ByteArray} {k:Nat} (hk:k<s.size) (h:pr s[k]=false):printS (L s)=false:=by
 rw [Bool.eq_false_iff]
 intro h1
 have h2:k<(L s).length:=by rw [len_L];exact hk
 have h3:=List.all_eq_true.1 h1 (L s)[k] (List.getElem_mem h2)
 have e:(L s)[k]=s[k]:=rfl
 rw [e,h] at h3
 cases h3
theorem print_all {s:ByteArray} (h:∀ k,(hk:k<s.size)→pr s[k]=true):printS (L s)=true:=by
 refine List.all_eq_true.2 fun c hc=>?_
 obtain ⟨i,hi,rfl⟩:=List.getElem_of_mem hc
 have h2:i<s.size:=by rw [len_L] at hi;exact hi
 have e:(L s)[i]=s[i]:=rfl
 rw [e]
 exact h i h2
set_option maxHeartbeats 4000000 in
theorem PGMatch_any (p s:ByteArray) (w:World) (hp:p.size≤4611686018427387904) (hs:s.size≤4611686018427387904) :
 Calls Tryz.prog 142 #[.string p,.string s] w fun e w'=>e=.returned (.bool (globM (L p) (L s)))∧Below w.heap.size w w':=by
 have HPa:=Lib.hid (PGParse_any p w (by omega))
 unfold PGParsePost at HPa
 cases hg:globS (L p) with
 | none =>
   have hE:=globE_none hg
   have HM:=Lib.hid (globM_none (s:=L s) hg)
   rw [hg] at HPa
   dsimp only at HPa
   generalize globE (L p)=n at *
   have h1:(n == 0)=false:=by simp [hE]
   have h2:(n != 0)=true:=by simp [hE]
   clear hg hE
   go_enter Tryz.func142,Tryz.ntmps142
   go_wp2_with (go_at_call 166;refine HPa.out.mono ?_;rintro e w1 ⟨hb1,n',rfl,rfl⟩;have HB1:=Lib.hid hb1;clear hb1)
   go_ret
   exact ⟨by rw [HM.out];rfl,HB1.out⟩
 | some alts =>
   have hZ:=globS_sizes hg
   have HZ:=Lib.hid hZ
   have HGs:=Lib.hid hg
   rw [hg] at HPa
   dsimp only at HPa
   clear hg hZ
   go_enter Tryz.func142,Tryz.ntmps142
   go_wp2_with (go_at_call 166;refine HPa.out.mono ?_;rintro e w2 ⟨hb2,v,rfl,hN⟩;obtain ⟨A,c,rfl⟩:=hN.slice;have HN:=Lib.hid hN;have HB2:=Lib.hid hb2;clear hb2 hN)
   go_loopg [19] (s.size+1) (fun gk s19 wr=>∃ k:Nat,s19=.int .i64 k∧k+gk=s.size+1∧k≤s.size∧Hid (∀ j,(hj:j<s.size)→j<k→pr s[j]=true)∧w2=wr)
   case atStart=>exact ⟨0,rfl,by omega,Nat.zero_le _,(fun j _ h=>absurd h (Nat.not_lt_zero _)),rfl⟩
   case round =>
    obtain ⟨k,rfl,hkg,hkN,hPr,rfl⟩:=hrel
    by_cases hlt:k<s.size
    · have hltI:(k:Int)<(s.size:Int):=by omega
      have hpr2:pr s[k]=(decide (32≤(s[k].toNat:Int)) && decide ((s[k].toNat:Int)≤126)):=rfl
      by_cases hlo:s[k].toNat<32
      · have hloI:(s[k].toNat:Int)<32:=by omega
        have HM:=Lib.hid (globM_dark (p:=L p) (print_at hlt (by rw [hpr2];simp;omega)))
        clear hpr2
        go_wp2
        go_ret
        exact ⟨by rw [HM.out];rfl,HB2.out⟩
      have hloI:¬ (s[k].toNat:Int)<32:=by omega
      by_cases hhi:126<s[k].toNat
      · have hhiI:(126:Int)<(s[k].toNat:Int):=by omega
        have HM:=Lib.hid (globM_dark (p:=L p) (print_at hlt (by rw [hpr2];simp;omega)))
        clear hpr2
        go_wp2
        go_ret
        exact ⟨by rw [HM.out];rfl,HB2.out⟩
      have hhiI:¬ (126:Int)<(s[k].toNat:Int):=by omega
      have HPr2:Hid (∀ j,(hj:j<s.size)→j<k+1→pr s[j]=true):=Lib.hid fun j hj h=>by
       rcases (by omega:j<k∨j=k) with h | rfl
       · exact hPr.out j hj h
       · rw [hpr2];simp;omega
      clear hpr2
      go_wp2
      go_roundg (gk - 1)
      case measure=>omega
      case rel=>exact ⟨k+1,by go_num,by omega,by omega,HPr2.out,rfl⟩
    · obtain rfl:k=s.size:=by omega
      have hpr:=print_all (s:=s) (fun j hj=>hPr.out j hj hj)
      have HM:=Lib.hid (globM_some HGs.out hpr)
      have HBy:=Lib.hid (pr_byte hpr)
      obtain ⟨vs,hV⟩:=HN.out
      have HAt:=Lib.hid (fun i (hi:i<alts.length)=>hV.altAt hi)
      clear hV hpr hlt hkg
      go_wp2_with fail
      go_loopg [35] (alts.length+1) (fun gk s35 wr=>∃ k:Nat,s35=.int .i64 k∧k+gk=alts.length+1∧k≤alts.length∧Hid ((alts.take k).any (fun l=>altB l (L s))=false)∧Hid (Below w2.heap.size w2 wr))
      case atStart=>exact ⟨0,rfl,by omega,Nat.zero_le _,rfl,Below.refl _ _⟩
      case round =>
       obtain ⟨k,rfl,hkg,hkN,hAn,hB⟩:=hrel
       have hM:=HZ.out.2
       by_cases hlt:k<alts.length
       · have hltI:(k:Int)<(alts.length:Int):=by omega
         obtain ⟨g,cv,A',c',hv,hgl,hcell,hrow⟩:=HAt.out k hlt
         obtain ⟨rfl,rfl⟩:A=some ⟨g,0,none⟩∧c=cv:=by injection hv with h1 _ h2;exact ⟨h1,h2⟩
         have hl:=HZ.out.1 alts[k] (List.getElem_mem _)
         have hc1:wr.cell? ⟨g,k,none⟩=some (.slice A' alts[k].length c'):=(hB.out.cell (p:=⟨g,k,none⟩) hgl).trans hcell
         have HTk:=Lib.hid (any_take (f:=fun l=>altB l (L s)) hlt)
         have HOn:=Lib.hid (Gmatches_any A' c' alts[k] s wr (by omega) (by omega) ((hrow.keep hB.out).up hB.out.size) (fun i hi=>by have:=HBy.out i hi;omega))
         generalize alts[k]=l at *
         generalize l.length=ll at *
         clear hv hcell hrow
         cases hab:altB l (L s) with
         | true =>
           rw [hab] at HOn
           have HFin:Hid (alts.any (fun l=>altB l (L s))=true):=Lib.hid (by
            have h1:=HTk.out
            rw [hab,Bool.or_true] at h1
            obtain ⟨x,hx,hx2⟩:=List.any_eq_true.1 h1
            exact List.any_eq_true.2 ⟨x,List.mem_of_mem_take hx,hx2⟩)
           clear hab
           go_wp2_with (go_at_call 167;refine HOn.out.mono ?_;rintro e w3 ⟨rfl,hb3⟩;have HB3:=Lib.hid (bt HB2.out (bt hB.out hb3));clear hb3)
           go_ret
           exact ⟨by rw [HM.out,HFin.out];rfl,HB3.out⟩
         | false =>
           rw [hab] at HOn
           have HAn2:Hid ((alts.take (k+1)).any (fun l=>altB l (L s))=false):=Lib.hid (by rw [HTk.out,hAn.out,hab];rfl)
           clear hab
           go_wp2_with (go_at_call 167;refine HOn.out.mono ?_;rintro e w3 ⟨rfl,hb3⟩;have HB3:=Lib.hid (bt hB.out hb3);clear hb3)
           go_roundg (gk - 1)
           case measure=>omega
           case rel=>exact ⟨k+1,by go_num,by omega,by omega,HAn2.out,HB3.out⟩
       · obtain rfl:k=alts.length:=by omega
         have HFin:Hid (alts.any (fun l=>altB l (L s))=false):=Lib.hid (by have:=hAn.out;rwa [List.take_length] at this)
         go_wp2
         go_ret
         exact ⟨by rw [HM.out,HFin.out];rfl,bt HB2.out hB.out⟩
end
section
open Go.RowKit
theorem rdBDr {w W:World} (h:Below w.heap.size w W):Below w.heap.size w W.drew:=h.drew
end
section
open Go.RowKit
structure DvOk (d:Dv):Prop where
 og:d.og.size≤4611686018427387904
 sb:d.sb.size≤4611686018427387904
 dr:d.dr.size≤4611686018427387904
 ats:∀ x∈d.ats.l,x.val.size≤4611686018427387904
 len:d.ats.l.length≤4611686018427387904
abbrev DvAt (w:World) (B:Nat) (d:Dv):Prop:=RowAt w B d.ats.A 2 d.ats.l.length (cellsOf encAt d.ats.l)
theorem getU_is (l:List At) (n:Str):getU (findF l n)=.tuple #[.string (attrS l n),.bool (findF l n).isSome]:=by
 unfold attrS
 cases findF l n <;> rfl
theorem attrS_size {l:List At} (h:∀ x∈l,x.val.size≤4611686018427387904) (n:Str):(attrS l n).size≤4611686018427387904:=by
 unfold attrS
 cases hf:findF l n with
 | none=>exact Nat.zero_le _
 | some x=>exact h x (findF_name hf).2
theorem devB_no {t:Tm} {d:Dv} (h:staticB t=false) (h2:upB t=false):devB t d=false:=by
 unfold staticB at h
 unfold upB at h2
 unfold devB seenV
 cases hm:matchB t.op with
 | false=>rfl
 | true =>
   rw [hm] at h h2
   simp only [Bool.true_and,Bool.or_eq_false_iff,beq_eq_false_iff_ne] at h h2
   rw [if_neg (by omega),if_neg (by omega),if_neg (by omega),if_neg (by omega)]
   rfl
theorem devB_at {t:Tm} {d:Dv} (hm:matchB t.op=true) (v:ByteArray) (h:seenV t d=some v):devB t d=holdsB t v:=by
 unfold devB
 rw [hm,h];rfl
end
end Go.Proofs.YtobcmlmbblgcdaaGreatDoor

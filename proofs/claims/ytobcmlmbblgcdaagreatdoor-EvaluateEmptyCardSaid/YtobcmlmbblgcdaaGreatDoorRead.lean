/-
  Contracts of the reader of templates: kind, braces.
-/
import Derived.Test.YtobcmlmbblgcdaaGreatDoorG08
namespace Go.Proofs.YtobcmlmbblgcdaaGreatDoor
set_option maxRecDepth 100000
open Go.RowKit
structure Rd (w:World) (g:Nat) (rest:ByteArray) (ps:List Pc):Prop where
 ex:∃ v,w.heap[g]? = some (.cells #[.string rest,v] 273 (0,0))∧w.ownsRow (g+1) 249 4 v ps.length (cellsOf encPc ps)
theorem blk_lt {w:World} {g:Nat} {o:Obj} (h:w.heap[g]? = some o):g<w.heap.size:=(Array.getElem?_eq_some_iff.1 h).1
theorem Rd.lt {w:World} {g:Nat} {r:ByteArray} {ps:List Pc} (h:Rd w g r ps):g<w.heap.size:=by
 obtain ⟨v,hb,_⟩:=h.ex
 exact blk_lt hb
theorem Rd.keep {w w':World} {g:Nat} {r:ByteArray} {ps:List Pc} (h:Rd w g r ps) (hb:Below w.heap.size w w'):Rd w' g r ps:=by
 obtain ⟨v,hh,ho⟩:=h.ex
 refine ⟨v,by rw [hb.block g (blk_lt hh)];exact hh,?_⟩
 exact ho.kept (row:=none) ⟨hb.os,hb.tape,hb.output,hb.size,fun k hk _=>hb.block k hk⟩ (by
  rcases ho.2 with ⟨h1,_⟩ | ⟨g',cap,cur,h1,_⟩
  · left;rw [h1];rfl
  · right;rw [h1];simp [Value.ownBlock])
theorem Rd.cut {w:World} {g:Nat} {r:ByteArray} {ps:List Pc} (h:Rd w g r ps) (r':ByteArray):Rd (w.setCell ⟨g,0,none⟩ (.string r')) g r' ps:=by
 obtain ⟨v,hh,ho⟩:=h.ex
 exact ⟨v,by rw [heap_setCell_same _ _ _ _ _ _ hh];rfl,ownsRow_setCell_below ho (by simp) _⟩
theorem low_ascii (j:Nat) (b:UInt8) (h:lowL[j]? = some b):b.toNat<128:=by
 have hm:b∈lowL:=List.mem_of_getElem? h
 simp only [lowL,List.mem_cons,List.not_mem_nil,or_false] at hm
 rcases hm with h | h | h | h | h | h | h | h | h | h | h | h | h | h | h | h | h | h | h | h | h | h | h | h | h | h <;> subst h <;> decide
theorem rowsize:(Tryz.prog.info? 245).map (fun i=>(i.zero,i.size))=some (some (.agg #[sv [],sv [],.nilFunc,.nilFunc]),4):=by kernel_rfl
theorem braV_one (k:Nat):(braV k).oneCell'=true:=by unfold braV;split <;> rfl
theorem valV_one (k:Nat):(valV k).oneCell'=true:=by unfold valV;split <;> rfl
theorem isKind_iff (long:Bool) (wd:ByteArray) (k:Nat):isKind long (L wd) k=(!wd.toList.isEmpty && ((long && longN k == wd.toList) || (!long && shortN k == wd.toList))):=by
 rw [tl];rfl
set_option maxHeartbeats 2000000 in
theorem kind_any (long:Bool) (g:Nat) (rest:ByteArray) (ps:List Pc) (w:World) (h:Rd w g rest ps) (hr:rest.size≤1000) :
 Calls Tryz.prog 237 #[.pointer (some ⟨g,0,none⟩),.bool long] w fun e w' =>
  e=.returned (.int .i64 (kindOf long ((L rest).take (wordLen long (L rest)))))∧Rd w' g (bs ((L rest).drop (wordLen long (L rest)))) ps∧Below g w w':=by
 obtain ⟨v,hh,ho⟩:=h.ex
 have c0:w.cell? ⟨g,0,none⟩=some (.string rest):=by rw [cell_of_row _ _ 0 _ _ _ hh];rfl
 have f0:w.frozen? ⟨g,0,none⟩=false:=frozen_of_row _ _ _ _ _ hh
 have HH:=Lib.hid h
 clear hh ho h
 cases long
 · go_enter Tryz.func237,Tryz.ntmps237
   go_wp2_with (go_at_call 169;refine (forms_any _).mono ?_;rintro e w1 ⟨rfl,hb1⟩)
   have HW:Hid (L (rest.extract 0 (min 1 (rest.size:Int)).toNat)=(L rest).take (wordLen false (L rest))):=by
    show L _=_
    rw [L_extract,List.drop_zero,wordLen]
    rw [if_neg (by simp),len_L];congr 1;omega
   have HR:Hid (rest.extract (min 1 (rest.size:Int)).toNat rest.size=bs ((L rest).drop (wordLen false (L rest)))):=by
    show rest.extract (min 1 (rest.size:Int)).toNat rest.size=_
    refine eq_bs ?_
    rw [L_extract,List.take_of_length_le (by rw [len_L];exact Nat.le_refl _),wordLen]
    rw [if_neg (by simp),len_L];congr 1;omega
   generalize rest.extract (min 1 (rest.size:Int)).toNat rest.size=rr at *
   generalize rest.extract 0 (min 1 (rest.size:Int)).toNat=wd at *
   have HC:Hid (Rd w1 g rr ps∧Below g w w1):=⟨(HH.out.cut rr).keep hb1,((Below.refl g w).setCell (Nat.le_refl _) _).trans (hb1.mono (by simp;exact Nat.le_of_lt HH.out.lt))⟩
   clear hb1
   by_cases h0:wd.toList=[]
   · go_loopg [44] 12 (fun gk i wr=>∃ k:Nat,k+gk=12∧i=.int .i64 k∧Hid (∀ j,j<k→isKind false (L wd) j=false)∧Hid (Below w1.heap.size w1 wr))
     case atStart=>exact ⟨0,by omega,rfl,fun j hj=>absurd hj (by omega),Below.refl _ _⟩
     case round =>
      obtain ⟨k,hk,rfl,hp,hb⟩:=hrel
      have hk':k≤12:=by omega
      have HK:=Lib.hid hk
      clear hk
      by_cases hlt:k<12
      · have hrow:=forms_row k hlt
        have HV:Hid (isKind false (L wd) k=false):=by
         show isKind false (L wd) k=false
         rw [isKind,←tl,h0];rfl
        go_wp2_with (first | (refine wpList_alloc_known rfl 245 rfl _ ((zero_of_info rowsize).1 _) ?_) | (refine wpList_store_new rfl 245 _ _ rfl _ _ _ _ rfl rfl rfl (by rfl) (by exact form_size) (by exact one4 rfl rfl (braV_one _) (valV_one _)) ?_))
        have hb2:Below w1.heap.size w1 (wr.alloc (.cells #[.string ⟨(longN k).toArray⟩,.string ⟨(shortN k).toArray⟩,braV k,valV k] 245)):=hb.out.alloc hb.out.size _
        have hk:=HK.out
        go_roundg (gk - 1)
        case measure=>omega
        case rel =>
         refine ⟨k+1,by omega,by go_num,fun j hj=>?_,hb2⟩
         rcases (by omega:j=k∨j<k) with e | e
         · subst e;exact HV.out
         · exact hp.out j e
      · go_wp2
        go_ret
        have hk12:k=12:=by omega
        subst hk12
        refine ⟨ret_int ?_,?_,?_⟩
        · rw [←HW.out,kindOf_miss _ _ hp.out];rfl
        · rw [←HR.out];exact HC.out.1.keep hb.out
        · exact HC.out.2.trans (hb.out.mono (Nat.le_of_lt HC.out.1.lt))
   · have he:wd.toList.isEmpty=false:=by rw [tl];exact L_ne h0
     go_loopg [44] 12 (fun gk i wr=>∃ k:Nat,k+gk=12∧i=.int .i64 k∧Hid (∀ j,j<k→isKind false (L wd) j=false)∧Hid (Below w1.heap.size w1 wr))
     case atStart=>exact ⟨0,by omega,rfl,fun j hj=>absurd hj (by omega),Below.refl _ _⟩
     case round =>
      obtain ⟨k,hk,rfl,hp,hb⟩:=hrel
      have hk':k≤12:=by omega
      have HK:=Lib.hid hk
      clear hk
      by_cases hlt:k<12
      · have hrow:=forms_row k hlt
        cases hq:shortN k == wd.toList
        all_goals
         have hv:=isKind_iff false wd k
         rw [he,hq] at hv
         simp only [Bool.not_false,Bool.false_and,Bool.and_true,Bool.and_false,Bool.or_false,Bool.false_or] at hv
         have HV:=Lib.hid hv
         clear hv
         go_wp2_with (first | (refine wpList_alloc_known rfl 245 rfl _ ((zero_of_info rowsize).1 _) ?_) | (refine wpList_store_new rfl 245 _ _ rfl _ _ _ _ rfl rfl rfl (by rfl) (by exact form_size) (by exact one4 rfl rfl (braV_one _) (valV_one _)) ?_))
        · have hb2:Below w1.heap.size w1 (wr.alloc (.cells #[.string ⟨(longN k).toArray⟩,.string ⟨(shortN k).toArray⟩,braV k,valV k] 245)):=hb.out.alloc hb.out.size _
          have hk:=HK.out
          go_roundg (gk - 1)
          case measure=>omega
          case rel =>
           refine ⟨k+1,by omega,by go_num,fun j hj=>?_,hb2⟩
           rcases (by omega:j=k∨j<k) with e | e
           · subst e;exact HV.out
           · exact hp.out j e
        · have hb2:Below w1.heap.size w1 (wr.alloc (.cells #[.string ⟨(longN k).toArray⟩,.string ⟨(shortN k).toArray⟩,braV k,valV k] 245)):=hb.out.alloc hb.out.size _
          go_ret
          refine ⟨ret_int ?_,?_,?_⟩
          · rw [←HW.out,kindOf_hit _ _ k hlt HV.out hp.out]
          · rw [←HR.out];exact HC.out.1.keep hb2
          · exact HC.out.2.trans (hb2.mono (Nat.le_of_lt HC.out.1.lt))
      · go_wp2
        go_ret
        have hk12:k=12:=by omega
        subst hk12
        refine ⟨ret_int ?_,?_,?_⟩
        · rw [←HW.out,kindOf_miss _ _ hp.out];rfl
        · rw [←HR.out];exact HC.out.1.keep hb.out
        · exact HC.out.2.trans (hb.out.mono (Nat.le_of_lt HC.out.1.lt))
 · have hcs:=low_ascii
   have HT:∀ W,Calls Tryz.prog 263 #[.string rest,.string ⟨#[97,98,99,100,101,102,103,104,105,106,107,108,109,110,111,112,113,114,115,116,117,118,119,120,121,122]⟩] W (fun e w'=>e=.returned (.string (bs (Lib.trimLeftS (L rest) lowL)))∧Below W.heap.size W w'):=fun W =>
    Any.strings_TrimLeft_laid Tryz.lays161 (by kernel_rfl) rest ⟨#[97,98,99,100,101,102,103,104,105,106,107,108,109,110,111,112,113,114,115,116,117,118,119,120,121,122]⟩ W (by decide) low_ascii
   have hl:(Lib.trimLeftS (L rest) lowL).length≤rest.size:=by
    rw [←len_L];exact (List.dropWhile_sublist (lowL.contains ·)).length_le
   have HZ:Hid (rest.size - (bs (Lib.trimLeftS (L rest) lowL)).size=(L rest).length - (Lib.trimLeftS (L rest) lowL).length):=by
    show _=_
    rw [size_bs,len_L]
   rw [←size_bs] at hl
   generalize bs (Lib.trimLeftS (L rest) lowL)=tr at *
   clear hcs
   go_enter Tryz.func237,Tryz.ntmps237
   go_wp2
   have hg:g<w.heap.size:=HH.out.lt
   have HF:=Lib.hid f0
   clear f0
   go_region_held3 (fun w'=>w'.cell? ⟨g,0,none⟩=some (.string rest)∧Below w.heap.size w w') (first | exact ⟨c0,(Below.refl _ _).drew⟩ | exact ⟨(hb0.cell (p:=⟨g,0,none⟩) (by simpa using hg)).trans c0,((Below.refl _ _).drew).trans hb0⟩) (first | (go_at_call 263;refine (HT _).mono ?_;rintro e w0 ⟨rfl,hb0⟩))
   have hW:Below w.heap.size w w0:=((Below.refl _ _).drew).trans hb0
   have c0':w0.cell? ⟨g,0,none⟩=some (.string rest):=(hW.cell (p:=⟨g,0,none⟩) hg).trans c0
   have f0':w0.frozen? ⟨g,0,none⟩=false:=(hW.frozen (p:=⟨g,0,none⟩) hg).trans HF.out
   have e1:IntKind.i64.wrap ((rest.size:Int) - (tr.size:Int))=((rest.size - tr.size:Nat):Int):=by
    rw [IntWalk.i64_in _ (by omega)];omega
   rw [e1]
   clear e1 hb0 c0
   have hle:rest.size - tr.size≤rest.size:=by omega
   go_wp2_with (go_at_call 169;refine (forms_any _).mono ?_;rintro e w1 ⟨rfl,hb1⟩)
   have HW:Hid (L (rest.extract 0 (rest.size - tr.size))=(L rest).take (wordLen true (L rest))):=by
    show L _=_
    rw [L_extract,List.drop_zero,wordLen]
    rw [if_pos rfl,←HZ.out]
   have HR:Hid (rest.extract (rest.size - tr.size) rest.size=bs ((L rest).drop (wordLen true (L rest)))):=by
    show rest.extract (rest.size - tr.size) rest.size=_
    refine eq_bs ?_
    rw [L_extract,List.take_of_length_le (by rw [len_L];exact Nat.le_refl _),wordLen]
    rw [if_pos rfl,←HZ.out]
   generalize rest.extract (rest.size - tr.size) rest.size=rr at *
   generalize rest.extract 0 (rest.size - tr.size)=wd at *
   have HC:Hid (Rd w1 g rr ps∧Below g w w1):=⟨((HH.out.keep hW).cut rr).keep hb1,((hW.mono (Nat.le_of_lt hg)).setCell (p:=⟨g,0,none⟩) (Nat.le_refl _) _).trans (hb1.mono (by simp;exact Nat.le_of_lt (Nat.lt_of_lt_of_le hg hW.size)))⟩
   clear hb1 hW hg
   by_cases h0:wd.toList=[]
   · go_loopg [44] 12 (fun gk i wr=>∃ k:Nat,k+gk=12∧i=.int .i64 k∧Hid (∀ j,j<k→isKind true (L wd) j=false)∧Hid (Below w1.heap.size w1 wr))
     case atStart=>exact ⟨0,by omega,rfl,fun j hj=>absurd hj (by omega),Below.refl _ _⟩
     case round =>
      obtain ⟨k,hk,rfl,hp,hb⟩:=hrel
      have hk':k≤12:=by omega
      have HK:=Lib.hid hk
      clear hk
      by_cases hlt:k<12
      · have hrow:=forms_row k hlt
        have HV:Hid (isKind true (L wd) k=false):=by
         show isKind true (L wd) k=false
         rw [isKind,←tl,h0];rfl
        go_wp2_with (first | (refine wpList_alloc_known rfl 245 rfl _ ((zero_of_info rowsize).1 _) ?_) | (refine wpList_store_new rfl 245 _ _ rfl _ _ _ _ rfl rfl rfl (by rfl) (by exact form_size) (by exact one4 rfl rfl (braV_one _) (valV_one _)) ?_))
        have hb2:Below w1.heap.size w1 (wr.alloc (.cells #[.string ⟨(longN k).toArray⟩,.string ⟨(shortN k).toArray⟩,braV k,valV k] 245)):=hb.out.alloc hb.out.size _
        have hk:=HK.out
        go_roundg (gk - 1)
        case measure=>omega
        case rel =>
         refine ⟨k+1,by omega,by go_num,fun j hj=>?_,hb2⟩
         rcases (by omega:j=k∨j<k) with e | e
         · subst e;exact HV.out
         · exact hp.out j e
      · go_wp2
        go_ret
        have hk12:k=12:=by omega
        subst hk12
        refine ⟨ret_int ?_,?_,?_⟩
        · rw [←HW.out,kindOf_miss _ _ hp.out];rfl
        · rw [←HR.out];exact HC.out.1.keep hb.out
        · exact HC.out.2.trans (hb.out.mono (Nat.le_of_lt HC.out.1.lt))
   · have he:wd.toList.isEmpty=false:=by rw [tl];exact L_ne h0
     go_loopg [44] 12 (fun gk i wr=>∃ k:Nat,k+gk=12∧i=.int .i64 k∧Hid (∀ j,j<k→isKind true (L wd) j=false)∧Hid (Below w1.heap.size w1 wr))
     case atStart=>exact ⟨0,by omega,rfl,fun j hj=>absurd hj (by omega),Below.refl _ _⟩
     case round =>
      obtain ⟨k,hk,rfl,hp,hb⟩:=hrel
      have hk':k≤12:=by omega
      have HK:=Lib.hid hk
      clear hk
      by_cases hlt:k<12
      · have hrow:=forms_row k hlt
        cases hq:longN k == wd.toList
        all_goals
         have hv:=isKind_iff true wd k
         rw [he,hq] at hv
         simp only [Bool.not_true,Bool.not_false,Bool.false_and,Bool.and_true,Bool.and_false,Bool.or_false] at hv
         have HV:=Lib.hid hv
         clear hv
         go_wp2_with (first | (refine wpList_alloc_known rfl 245 rfl _ ((zero_of_info rowsize).1 _) ?_) | (refine wpList_store_new rfl 245 _ _ rfl _ _ _ _ rfl rfl rfl (by rfl) (by exact form_size) (by exact one4 rfl rfl (braV_one _) (valV_one _)) ?_))
        · have hb2:Below w1.heap.size w1 (wr.alloc (.cells #[.string ⟨(longN k).toArray⟩,.string ⟨(shortN k).toArray⟩,braV k,valV k] 245)):=hb.out.alloc hb.out.size _
          have hk:=HK.out
          go_roundg (gk - 1)
          case measure=>omega
          case rel =>
           refine ⟨k+1,by omega,by go_num,fun j hj=>?_,hb2⟩
           rcases (by omega:j=k∨j<k) with e | e
           · subst e;exact HV.out
           · exact hp.out j e
        · have hb2:Below w1.heap.size w1 (wr.alloc (.cells #[.string ⟨(longN k).toArray⟩,.string ⟨(shortN k).toArray⟩,braV k,valV k] 245)):=hb.out.alloc hb.out.size _
          go_ret
          refine ⟨ret_int ?_,?_,?_⟩
          · rw [←HW.out,kindOf_hit _ _ k hlt HV.out hp.out]
          · rw [←HR.out];exact HC.out.1.keep hb2
          · exact HC.out.2.trans (hb2.mono (Nat.le_of_lt HC.out.1.lt))
      · go_wp2
        go_ret
        have hk12:k=12:=by omega
        subst hk12
        refine ⟨ret_int ?_,?_,?_⟩
        · rw [←HW.out,kindOf_miss _ _ hp.out];rfl
        · rw [←HR.out];exact HC.out.1.keep hb.out
        · exact HC.out.2.trans (hb.out.mono (Nat.le_of_lt HC.out.1.lt))
end Go.Proofs.YtobcmlmbblgcdaaGreatDoor

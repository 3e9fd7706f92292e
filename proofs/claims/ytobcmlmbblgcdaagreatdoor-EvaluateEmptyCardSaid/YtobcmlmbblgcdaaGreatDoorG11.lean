/-
  Contracts of the program's Set of an attribute, and of the search it makes.
  Contract of the program's Set of an attribute.
-/
import Derived.Test.YtobcmlmbblgcdaaGreatDoorG05
import Derived.ArgAppend
import Derived.Maps.AppendAt
import Derived.Deep.QuietTactic
import Derived.BigQuiet
namespace Go.Proofs.YtobcmlmbblgcdaaGreatDoor
set_option maxRecDepth 100000
section
open Go.RowKit
theorem cmpB:∀ a b:Str,Lib.compareBytes a b=if a<b then -1 else if a=b then 0 else 1
 | [],[]=>by simp [Lib.compareBytes]
 | [],_ :: _=>by simp [Lib.compareBytes]
 | _ :: _,[]=>by simp [Lib.compareBytes]
 | a :: x,b :: y=>by
   rw [Lib.compareBytes,cmpB x y]
   simp only [List.cons_lt_cons_iff]
   by_cases h1:a<b
   · simp [h1]
   · by_cases h2:b<a
     · have h3:a≠b:=fun e=>by subst e;exact h1 h2
       simp [h1,h2,h3]
     · have h3:a=b:=by
        have:=UInt8.le_antisymm (UInt8.not_lt.1 h2) (UInt8.not_lt.1 h1)
        exact this
       subst h3
       by_cases h4:x<y <;> by_cases h5:x=y <;> simp [h4,h5,h1]
theorem SetC_any (x:At) (nm0:ByteArray) (W:World):Calls Tryz.prog 72 #[.agg #[.string x.name,.string x.val],.string nm0] W fun e w'=>e=.returned (.int .i64 (Lib.compareBytes (nm x) (L nm0)))∧Below W.heap.size W w':=by
 have HC:=Lib.hid (fun W=>Tryz.strings_Compare x.name nm0 W)
 go_enter Tryz.func72,Tryz.ntmps72
 go_wp2_with (go_at_call 73;refine (HC.out _).mono ?_;rintro e w2 ⟨rfl,rfl⟩)
 go_ret
 exact ⟨rfl,below_alloc _ _⟩
theorem head_lt {l:List At} {k:Str} {j:Nat} (hj:j<l.length) (h:j<(headA l k).length):nm l[j]<k:=by
 have h1:l[j]? = (headA l k)[j]?:=by
  have:=congrArg (fun m=>m[j]?) (head_tail l k)
  rw [←this]
  exact List.getElem?_append_left h
 rw [List.getElem?_eq_getElem hj,List.getElem?_eq_getElem h] at h1
 rw [Option.some.inj h1]
 exact (headA_lt (List.getElem_mem h)).1
theorem tail_ge {l:List At} (ha:AscA l) {k:Str} {j:Nat} (hj:j<l.length) (h:(headA l k).length≤j):¬ nm l[j]<k:=by
 have h1:l[j]? = (tailA l k)[j - (headA l k).length]?:=by
  have:=congrArg (fun m=>m[j]?) (head_tail l k)
  rw [←this]
  exact List.getElem?_append_right h
 rw [List.getElem?_eq_getElem hj] at h1
 exact (tailA_ge ha (List.mem_of_getElem? h1.symm)).1
theorem head_le (l:List At) (k:Str):(headA l k).length≤l.length:=(List.takeWhile_sublist _).length_le
theorem at_place {l:List At} (ha:AscA l) {k:Str} {x:At} (h:l[(headA l k).length]? = some x):(findF l k).isSome=decide (nm x=k):=by
 obtain ⟨hj,rfl⟩:=List.getElem?_eq_some_iff.1 h
 have h1:tailA l k=l[(headA l k).length] :: (tailA l k).drop 1:=by
  have e:l[(headA l k).length]? = (tailA l k)[0]?:=by
   have:=congrArg (fun m=>m[(headA l k).length]?) (head_tail l k)
   rw [←this]
   rw [List.getElem?_append_right (Nat.le_refl _),Nat.sub_self]
  cases ht:tailA l k with
  | nil=>rw [ht,List.getElem?_eq_getElem hj] at e;cases e
  | cons y r=>rw [ht,List.getElem?_eq_getElem hj] at e;rw [Option.some.inj e];rfl
 cases hf:findF l k with
 | none =>
   have:=findF_none.1 hf
   rw [decide_eq_false (fun e=>this (List.mem_map.2 ⟨_,List.getElem_mem hj,e⟩))]
   rfl
 | some y =>
   obtain ⟨r,h2,_⟩:=tailA_hit ha hf
   rw [h2] at h1
   injection h1 with h1
   rw [←h1,decide_eq_true (findF_name hf).1]
   rfl
theorem at_end {l:List At} (ha:AscA l) {k:Str} (h:(headA l k).length=l.length):(findF l k).isSome=false:=by
 cases hf:findF l k with
 | none=>rfl
 | some y =>
   obtain ⟨r,h2,_⟩:=tailA_hit ha hf
   have:=congrArg List.length (head_tail l k)
   rw [List.length_append,h2,List.length_cons] at this
   omega
set_option maxHeartbeats 4000000 in
theorem Search_any (A:Option Addr) (c:Nat) (l:List At) (nm0:ByteArray) (w:World) (h:RowN w A 2 l.length (cellsOf encAt l)) (hl:l.length≤1000000) (ha:AscA l) :
 Calls Tryz.prog 71 #[.slice A l.length c,.string nm0,.func (.func 72) #[] #[]] w fun e w'=>e=.returned (.tuple #[.int .i64 (headA l (L nm0)).length,.bool (findF l (L nm0)).isSome])∧Below w.heap.size w w':=by
 have hK:=head_le l (L nm0)
 have HLt:=Lib.hid (fun j (hj:j<l.length) (h:j<(headA l (L nm0)).length)=>head_lt hj h)
 have HGe:=Lib.hid (fun j (hj:j<l.length) (h:(headA l (L nm0)).length≤j)=>tail_ge ha hj h)
 have HPl:=Lib.hid (fun x (h:l[(headA l (L nm0)).length]? = some x)=>at_place ha h)
 have HEn:=Lib.hid (fun (h:(headA l (L nm0)).length=l.length)=>at_end ha h)
 have HR:=Lib.hid h.row
 have HSc:=Lib.hid (fun (x:At) W=>SetC_any x nm0 W)
 clear h ha
 generalize (findF l (L nm0)).isSome=ok at *
 generalize (headA l (L nm0)).length=K at *
 obtain ⟨N,hN⟩:∃ N,l.length=N:=⟨_,rfl⟩
 have HN:=Lib.hid hN
 rw [hN] at hK hl ⊢
 clear hN
 go_enter Tryz.func71,Tryz.ntmps71
 go_wp2
 go_loopg [9,10,11] (N+1) (fun g s9 s10 _ wr=>∃ lo hi:Nat,s9=.int .i64 lo∧s10=.int .i64 hi∧lo≤K∧K≤hi∧hi≤N∧hi - lo<g∧Hid (Below w.heap.size w wr))
 case atStart=>exact ⟨0,N,rfl,rfl,Nat.zero_le _,hK,Nat.le_refl _,by omega,Below.refl _ _⟩
 case round =>
  obtain ⟨lo,hi,rfl,rfl,h1,h2,h3,hg,hB⟩:=hrel
  by_cases hlt:lo<hi
  · have hm:(lo+hi) / 2<l.length:=by rw [HN.out];omega
    obtain ⟨ba,off,rfl,hb,hc⟩:=RowAt.file (by rw [←HN.out] at *;exact HR.out) hm
    obtain ⟨c0,c1⟩:=hc wr hB.out
    have hmN:((lo:Int)+(hi:Int)) / 2<(N:Int):=by omega
    have HCc:=Lib.hid (HSc.out l[(lo+hi) / 2] wr)
    have HL:=Lib.hid (HLt.out _ hm)
    have HG:=Lib.hid (HGe.out _ hm)
    rw [cmpB] at HCc
    generalize l[(lo+hi) / 2]=x at *
    clear hc
    by_cases hx:nm x<L nm0
    · rw [if_pos hx] at HCc
      have hKm:(lo+hi) / 2<K:=by
       refine Classical.byContradiction fun hn=>HG.out (by omega) hx
      clear hx
      go_wp2_with (go_at_call 72;refine HCc.out.mono ?_;rintro e w2 ⟨rfl,hb2⟩;have HB2:=Lib.hid (bt hB.out hb2);clear hb2)
      go_roundg (hi - ((lo+hi) / 2+1)+1)
      case measure=>omega
      case rel=>exact ⟨(lo+hi) / 2+1,hi,by rw [show ((lo:Int)+(hi:Int)) / 2+1=(((lo+hi) / 2+1:Nat):Int) by omega],rfl,by omega,h2,h3,by omega,HB2.out⟩
    · have hKm:K≤(lo+hi) / 2:=by
       refine Classical.byContradiction fun hn=>hx (HL.out (by omega))
      have hz:¬ ((if L x.name=L nm0 then (0:Int) else 1)<0):=by split <;> omega
      rw [if_neg hx] at HCc
      clear hx
      have hz2:(decide ((if L x.name=L nm0 then (0:Int) else 1)<0))=false:=decide_eq_false hz
      generalize (if L x.name=L nm0 then (0:Int) else 1)=z at *
      go_wp2_with (go_at_call 72;refine HCc.out.mono ?_;rintro e w2 ⟨rfl,hb2⟩;have HB2:=Lib.hid (bt hB.out hb2);clear hb2)
      go_roundg ((lo+hi) / 2 - lo+1)
      case measure=>omega
      case rel=>exact ⟨lo,(lo+hi) / 2,rfl,by rw [show ((lo:Int)+(hi:Int)) / 2=(((lo+hi) / 2:Nat):Int) by omega],h1,hKm,by omega,by omega,HB2.out⟩
  · obtain rfl:lo=K:=by omega
    obtain rfl:hi=lo:=by omega
    by_cases hn:hi<N
    · have hm:hi<l.length:=by rw [HN.out];exact hn
      obtain ⟨ba,off,rfl,hb,hc⟩:=RowAt.file (by rw [←HN.out] at *;exact HR.out) hm
      obtain ⟨c0,c1⟩:=hc wr hB.out
      have hmN:(hi:Int)<(N:Int):=by omega
      have HCc:=Lib.hid (HSc.out l[hi] wr)
      have hok:=HPl.out _ (List.getElem?_eq_getElem hm)
      have hge:=HGe.out _ hm (Nat.le_refl _)
      rw [cmpB] at HCc
      generalize l[hi]=x at *
      rw [if_neg hge] at HCc
      clear hc hge
      by_cases hx:nm x=L nm0
      · rw [if_pos hx] at HCc
        rw [decide_eq_true hx] at hok
        clear hx
        go_wp2_with (go_at_call 72;refine HCc.out.mono ?_;rintro e w2 ⟨rfl,hb2⟩;have HB2:=Lib.hid (bt hB.out hb2);clear hb2)
        go_ret2
        exact ⟨by rw [hok];rfl,HB2.out⟩
      · rw [if_neg hx] at HCc
        rw [decide_eq_false hx] at hok
        clear hx
        go_wp2_with (go_at_call 72;refine HCc.out.mono ?_;rintro e w2 ⟨rfl,hb2⟩;have HB2:=Lib.hid (bt hB.out hb2);clear hb2)
        go_ret2
        exact ⟨by rw [hok];rfl,HB2.out⟩
    · have hok:=HEn.out (by rw [HN.out];omega)
      have hf:decide ((hi:Int)<(N:Int))=false:=by simp;omega
      have HOk:=Lib.hid hok
      clear hok
      go_wp2_with (first | (refine ⟨(fun f h=>(by cases h)),?_⟩))
      go_ret2
      exact ⟨by rw [HOk.out];rfl,hB.out⟩
end
section
open Go.RowKit
theorem app_head {HA:Option Addr} {hd:List At} {x:At} {W:World} {g:Nat} (hH:RowAt W W.heap.size HA 2 hd.length (cellsOf encAt hd)) (hf:(∃ b o,HA=some ⟨b,o,none⟩)∨(HA=none∧hd=[])) (hg:W.heap[g]? = some (.cells #[.string x.name,.string x.val] 104 (0,0))) (hl:hd.length≤10000) :
 ∃ NA nc w',(apG #[31,31] 31 #[.slice HA hd.length hd.length,.slice (some ⟨g,0,none⟩) 1 1]).run Tryz.prog W=.ok (.slice NA (hd.length+1) nc) w'∧w'.ownsRow W.heap.size 104 2 (.slice NA (hd.length+1) nc) (hd.length+1) (cellsOf encAt (hd++[x]))∧Below W.heap.size W w':=by
 obtain ⟨i0,hi0,hz0,hz1,hz2⟩:=info_parts attrInfo
 have hc:cellsOf encAt (hd++[x])=cellsOf encAt hd++encAt x:=by rw [cellsOf_append];simp [cellsOf]
 have hn:∀ j u,(encAt x)[j]? = some u→W.cell? ((⟨g,0,none⟩:Addr).add j)=some u:=fun j u hu=>by
  rw [add_at,Nat.zero_add]
  exact cellOf hg (by rw [←hu,←Array.getElem?_toList];rfl)
 rw [hc]
 rcases hf with ⟨b,o,rfl⟩ | ⟨rfl,rfl⟩
 · obtain ⟨v',w',h1,h2,h3⟩:=run_append_arg_grows (P:=Tryz.prog) W 31 31 104 i0 _ 2 32 Tryz.underlying31 hi0 hz0 hz1 hz2 rfl (by decide) ⟨b,o,none⟩ hd.length hd.length (cellsOf encAt hd) hH.len (fun j u hu=>by
    have hj:=(List.getElem?_eq_some_iff.1 hu).1
    rw [hH.len] at hj
    obtain ⟨b2,o2,e,_,hcc⟩:=hH.at_ (by omega)
    injection e with e
    injection e with e1 e2
    subst e1 e2
    rw [add_at]
    exact hcc j u hu) ⟨g,0,none⟩ 1 1 (encAt x) rfl hn (by omega) (by unfold maxLen;omega) (by omega)
   rw [ap_g] at h1
   obtain ⟨NA,nc,rfl⟩:=own_slice h2
   exact ⟨NA,nc,w',h1,h2,grown_none h3⟩
 · obtain ⟨v',w',h1,h2,h3,_,_⟩:=run_append_own_at (P:=Tryz.prog) W W.heap.size 31 31 104 i0 _ 2 32 Tryz.underlying31 hi0 hz0 hz1 hz2 rfl (by decide) (.slice none 0 0) 0 [] (World.ownsRow_nil _ _ _ _) ⟨g,0,none⟩ 1 1 (encAt x) rfl hn (encAt_1 x) (by unfold maxLen;omega) (by omega) (Nat.le_refl _)
   rw [ap_g] at h1
   obtain ⟨NA,nc,rfl⟩:=own_slice h2
   exact ⟨NA,nc,w',h1,h2,grown_none h3⟩
theorem bs_att (n:Nat) (parts:Array (Nat × Value)):Instr.buildSlice 31 n parts=bsG 31 n parts:=by unfold bsG;rfl
theorem Concat2_any {HA TA:Option Addr} {hc tc:Nat} {hd tl:List At} {W:World} (h1:RowAt W W.heap.size HA 2 hd.length (cellsOf encAt hd)) (h2:RowAt W W.heap.size TA 2 tl.length (cellsOf encAt tl)) (c1:hd.length≤hc) (c2:tl.length≤tc) (hl:hd.length+tl.length≤30000) :
 Calls Tryz.prog 74 #[.slice (some ⟨W.heap.size,0,none⟩) 2 2] (W.alloc (.cells #[.slice HA hd.length hc,.slice TA tl.length tc] 31)) fun e w'=>∃ v,e=.returned v∧OutIn W (hd++tl) v w':=by
 have hb:=below_alloc W (.cells #[.slice HA hd.length hc,.slice TA tl.length tc] 31)
 have hD:DirsAt (W.alloc (.cells #[.slice HA hd.length hc,.slice TA tl.length tc] 31)) (some ⟨W.heap.size,0,none⟩) [⟨HA,hc,hd⟩,⟨TA,tc,tl⟩]:=by
  refine ⟨⟨rfl,fun _=>⟨W.heap.size,0,rfl,by simp,fun j u hu=>?_⟩⟩,fun y hy=>?_,fun y hy=>?_⟩
  · rw [Nat.zero_add]
    exact cellOf (heap_alloc_new W _) (by rw [←hu,←Array.getElem?_toList];rfl)
  · rcases List.mem_cons.1 hy with rfl | hy
    · exact (h1.keep hb).up hb.size
    · obtain rfl:=List.mem_singleton.1 hy
      exact (h2.keep hb).up hb.size
  · rcases List.mem_cons.1 hy with rfl | hy
    · exact c1
    · obtain rfl:=List.mem_singleton.1 hy
      exact c2
 refine (Concat_any (some ⟨W.heap.size,0,none⟩) 2 [⟨HA,hc,hd⟩,⟨TA,tc,tl⟩] _ hD (by simp [bulk];omega)).mono ?_
 rintro e w' ⟨v,rfl,h3,h4⟩
 have e:catF [⟨HA,hc,hd⟩,⟨TA,tc,tl⟩]=hd++tl:=by simp [catF]
 rw [e] at h3
 exact ⟨v,rfl,own_base h3 hb.size,bt hb h4⟩
attribute [local go_sem ↓] bs_att ap_g
set_option maxHeartbeats 8000000 in
theorem PSet_any (y:Ls At) (n0 v0:ByteArray) (w:World) (h:LsN 2 encAt w y) (hl:y.l.length≤10000) (ha:AscA y.l) :
 Calls Tryz.prog 56 #[.slice y.A y.l.length y.c,.string n0,.string v0] w fun e w'=>∃ v,e=.returned v∧OutIn w (setP y.l ⟨n0,v0⟩) v w':=by
 obtain ⟨A,c,l⟩:=y
 have HS:=Lib.hid (Search_any A c l n0 w h.row (by have:l.length≤10000:=hl;omega) ha)
 have hK:=head_le l (L n0)
 have hcap:l.length≤c:=h.cap
 have hc2:c≤9223372036854775807:=by have:=h.big;unfold maxLen at this;exact this
 have hll:l.length≤10000:=hl
 have hht:=congrArg List.length (head_tail l (L n0))
 rw [List.length_append] at hht
 have hdrop:tailA l (L n0)=l.drop (headA l (L n0)).length:=by
  have:=congrArg (List.drop (headA l (L n0)).length) (head_tail l (L n0))
  rw [List.drop_left] at this
  exact this
 have hrest:restA l (L n0)=if (findF l (L n0)).isSome then l.drop ((headA l (L n0)).length+1) else l.drop (headA l (L n0)).length:=by
  cases hf:findF l (L n0) with
  | none=>rw [restA_miss hf,hdrop];rfl
  | some z =>
    obtain ⟨r,h1,h2⟩:=tailA_hit ha hf
    rw [h2]
    have h3:=hdrop
    rw [h1] at h3
    have:=congrArg (List.drop 1) h3
    rw [List.drop_succ_cons,List.drop_zero,List.drop_drop] at this
    exact this
 have hfound:(findF l (L n0)).isSome=true→(headA l (L n0)).length<l.length:=fun hf=>by
  cases hq:findF l (L n0) with
  | none=>rw [hq] at hf;cases hf
  | some z =>
    obtain ⟨r,h1,h2⟩:=tailA_hit ha hq
    rw [h1,List.length_cons] at hht
    omega
 have hHd:headA l (L n0)=l.take (headA l (L n0)).length:=by
  have:=congrArg (List.take (headA l (L n0)).length) (head_tail l (L n0))
  rw [List.take_left] at this
  exact this
 have hset:setP l ⟨n0,v0⟩=headA l (L n0)++((if (L v0).isEmpty then [] else [⟨n0,v0⟩])++restA l (L n0)):=rfl
 rw [hset]
 have hrow:=h.row.row
 have hpl:=h.row.pl
 have hnil:=h.nil
 clear hset h hht hdrop hl ha
 have HRow:=Lib.hid hrow
 obtain ⟨HD,hHD⟩:∃ HD,headA l (L n0)=HD:=⟨_,rfl⟩
 obtain ⟨RS,hRS⟩:∃ RS,restA l (L n0)=RS:=⟨_,rfl⟩
 rw [hHD] at HS hHd hfound hrest hK ⊢
 rw [hRS] at hrest ⊢
 generalize (findF l (L n0)).isSome=ok at *
 have hrl:RS.length=if ok then l.length - (HD.length+1) else l.length - HD.length:=by rw [hrest];cases ok <;> simp
 have HHead:Hid (∀ b o,A=some ⟨b,o,none⟩→RowAt w w.heap.size (some ⟨b,o,none⟩) 2 HD.length (cellsOf encAt HD)):=Lib.hid fun b o e=>by
  rw [e] at hrow
  have:=hrow.head hK
  rw [cellsOf_take encAt 2 (fun _=>rfl),←hHd] at this
  exact this
 have HTail:Hid (∀ b o m,A=some ⟨b,o,none⟩→RS=l.drop m→m≤l.length→RowAt w w.heap.size (some ⟨b,o+m*2,none⟩) 2 RS.length (cellsOf encAt RS)):=Lib.hid fun b o m e e2 hm=>by
  rw [e] at hrow
  have:=hrow.tail hm
  rw [cells_drop encAt 2 (fun _=>rfl),←e2] at this
  rw [e2,List.length_drop]
  rw [e2] at this
  exact this
 have HZero:Hid (∀ (X:Option Addr),RS.length=0→RowAt w w.heap.size X 2 RS.length (cellsOf encAt RS)):=Lib.hid fun X e=>by
  have e2:RS=[]:=List.length_eq_zero_iff.1 e
  rw [e2]
  exact ⟨rfl,fun hh=>absurd hh (Nat.lt_irrefl 0)⟩
 have HHz:Hid (∀ (X:Option Addr),HD.length=0→RowAt w w.heap.size X 2 HD.length (cellsOf encAt HD)):=Lib.hid fun X e=>by
  have e2:HD=[]:=List.length_eq_zero_iff.1 e
  rw [e2]
  exact ⟨rfl,fun hh=>absurd hh (Nat.lt_irrefl 0)⟩
 have HFin:Hid (∀ W v w',Below w.heap.size w W→OutIn W (HD++((if (L v0).isEmpty then [] else [⟨n0,v0⟩])++RS)) v w'→OutIn w (HD++((if (L v0).isEmpty then [] else [⟨n0,v0⟩])++RS)) v w'):=Lib.hid fun W v w' hb h=>⟨own_base h.1 hb.size,bt hb h.2⟩
 have HRS:=Lib.hid hrest
 have hsz0:HD.length≤10000:=by omega
 have hsz1:RS.length≤10000:=by rw [hrl];split <;> omega
 clear hrow hHd hHD hRS hrest
 dsimp only at *
 generalize hKe:HD.length=K at *
 generalize hNe:l.length=N at *
 generalize hMe:RS.length=M at *
 have HKe:=Lib.hid hKe
 have HNe:=Lib.hid hNe
 have HMe:=Lib.hid hMe
 clear hKe hNe hMe
 have b1:(K:Int)≤(c:Int):=by omega
 have b2:(K:Int)≤(N:Int):=by omega
 have HConc:=Lib.hid (fun (HA TA:Option Addr) (hc tc:Nat) (hd tl:List At) (W:World) h1 h2 c1 c2 hl=>Concat2_any (HA:=HA) (TA:=TA) (hc:=hc) (tc:=tc) (hd:=hd) (tl:=tl) (W:=W) h1 h2 c1 c2 hl)
 have HApp:=Lib.hid (fun (HA:Option Addr) (W:World) (g:Nat) hH hf hg hl=>app_head (HA:=HA) (hd:=HD) (x:=⟨n0,v0⟩) (W:=W) (g:=g) hH hf hg hl)
 have HSlice:Hid (∀ (HA:Option Addr) (W:World),Below w.heap.size w W→RowAt w w.heap.size HA 2 K (cellsOf encAt HD)→((∃ b o,HA=some ⟨b,o,none⟩)∨(HA=none∧K=0))→∃ NA nc w',(apG #[31,31] 31 #[.slice HA K K,.slice (some ⟨W.heap.size,0,none⟩) 1 1]).run Tryz.prog (W.alloc (.cells #[.string n0,.string v0] 104))=.ok (.slice NA (K+1) nc) w'∧w'.ownsRow W.heap.size 104 2 (.slice NA (K+1) nc) (K+1) (cellsOf encAt (HD++[⟨n0,v0⟩]))∧Below W.heap.size W w'):=Lib.hid fun HA W hb hH hf=>by
  have hb2:=bt hb (below_alloc W (.cells #[.string n0,.string v0] 104))
  have:=HApp.out HA (W.alloc (.cells #[.string n0,.string v0] 104)) W.heap.size (by rw [HKe.out];exact (hH.keep hb2).up hb2.size) (by
   rcases hf with h1 | ⟨h1,h2⟩
   · exact Or.inl h1
   · exact Or.inr ⟨h1,List.length_eq_zero_iff.1 (by rw [HKe.out];exact h2)⟩) (heap_alloc_new W _) (by rw [HKe.out];exact hsz0)
  rw [HKe.out] at this
  obtain ⟨NA,nc,w',h1,h2,h3⟩:=this
  exact ⟨NA,nc,w',h1,own_base h2 (by simp),bt (below_alloc _ _) h3⟩
 obtain ⟨MID,hMID⟩:∃ M:List At,(if (L v0).isEmpty then [] else [⟨n0,v0⟩])=M:=⟨_,rfl⟩
 rw [hMID] at HFin ⊢
 have HMID:=Lib.hid hMID
 clear hMID
 have hE:(v0.toList=[]∧v0.toList.isEmpty=true)∨(¬ v0.toList=[]∧v0.toList.isEmpty=false):=by
  rcases Classical.em (v0.toList=[]) with he | he
  · exact Or.inl ⟨he,by rw [he];rfl⟩
  · exact Or.inr ⟨he,by rw [tl];exact L_ne he⟩
 cases A with
 | none =>
   have hc0:c=0:=hnil rfl
   have hN0:N=0:=by omega
   have hK0:K=0:=by omega
   obtain rfl:ok=false:=by
    cases ok with
    | false=>rfl
    | true=>have:=hfound rfl;omega
   subst hc0 hN0 hK0
   clear hpl hnil hfound
   have hrl0:M=0:=by simpa using hrl
   clear hrl
   go_enter Tryz.func56,Tryz.ntmps56
   go_wp2_with (go_at_call 71;refine HS.out.mono ?_;rintro e w2 ⟨rfl,hb2⟩;have HB2:=Lib.hid hb2;clear hb2)
   go_quiet (fail)
   go_upto_region 5 with fail
   obtain ⟨W,hW⟩:∃ W,w2.drewN nq=W:=⟨_,rfl⟩
   have hbW:Below w.heap.size w W:=by rw [←hW];exact below_drewN HB2.out _
   rw [hW]
   clear hW
   have hT:RowAt w w.heap.size none 2 M (cellsOf encAt RS):=by subst hrl0;exact HZero.out none (by trivial)
   subst hrl0
   rcases hE with ⟨hE1,hv⟩ | ⟨hE1,hv⟩
   · skip
     have hv2:(L v0).isEmpty=true:=by rw [←tl];exact hv
     have HC1:=HConc.out none none 0 0 HD RS W (by rw [HKe.out];exact ((HHz.out none (by trivial)).keep hbW).up hbW.size) (by rw [HMe.out];exact (hT.keep hbW).up hbW.size) (by rw [HKe.out];omega) (by rw [HMe.out];omega) (by rw [HKe.out,HMe.out];omega)
     rw [HKe.out,HMe.out] at HC1
     have HV2:=Lib.hid hv2
     have HC:=Lib.hid HC1
     have HbW:=Lib.hid hbW
     clear HC1 hbW hT hv2
     go_wp2_with (go_at_call 74;refine HC.out.mono ?_;rintro e w4 ⟨v,rfl,hO⟩)
     go_ret
     exact ⟨v,rfl,HFin.out W v w4 HbW.out (by rw [←HMID.out,HV2.out];exact hO)⟩
   · skip
     have hv2:(L v0).isEmpty=false:=by rw [←tl];exact hv
     have hbs:=bsG_at (P:=Tryz.prog) Tryz.underlying31 attrInfo (by decide) (by decide) #[.string n0,.string v0] rfl W
     obtain ⟨NA,nc,w4,hap,hown,hb4⟩:=HSlice.out none W hbW (HHz.out none (by trivial)) (Or.inr ⟨rfl,by trivial⟩)
     have hLs:=LsN.of_own (l:=HD++[⟨n0,v0⟩]) (k:=2) (enc:=encAt) (A:=NA) (c:=nc) (by rw [List.length_append,HKe.out];exact hown)
     have hl2:(HD++[(⟨n0,v0⟩:At)]).length=0+1:=by rw [List.length_append,HKe.out];rfl
     have hbW4:=bt hbW hb4
     have hcp:=hLs.1.cap
     dsimp only at hcp
     rw [hl2] at hcp
     have HC1:=HConc.out NA none nc 0 (HD++[⟨n0,v0⟩]) RS w4 hLs.1.row.row (by rw [HMe.out];exact (hT.keep hbW4).up hbW4.size) (by rw [hl2];exact hcp) (by rw [HMe.out];omega) (by rw [hl2,HMe.out];omega)
     rw [hl2,HMe.out,List.append_assoc] at HC1
     have HV2:=Lib.hid hv2
     have HC:=Lib.hid HC1
     have HbW:=Lib.hid hbW4
     clear HC1 hbW hT hv2 hown hb4 hLs hl2 hbW4 hcp
     go_wp2_with (go_at_call 74;refine HC.out.mono ?_;rintro e w5 ⟨v,rfl,hO⟩)
     go_ret
     exact ⟨v,rfl,HFin.out w4 v w5 HbW.out (by rw [←HMID.out,HV2.out];exact hO)⟩
 | some a =>
   obtain ⟨ea,hlt⟩:=hpl a rfl
   clear hpl hnil
   obtain ⟨ba,hba⟩:∃ ba,a.block=ba:=⟨_,rfl⟩
   obtain ⟨off,hof⟩:∃ off,a.off=off:=⟨_,rfl⟩
   rw [hba,hof] at ea
   subst ea
   have hHH:=HHead.out ba off rfl
   cases ok with
   | false =>
     have hM:M=N - K:=by simpa using hrl
     clear hrl hfound
     go_enter Tryz.func56,Tryz.ntmps56
     go_wp2_with (go_at_call 71;refine HS.out.mono ?_;rintro e w2 ⟨rfl,hb2⟩;have HB2:=Lib.hid hb2;clear hb2)
     go_quiet (fail)
     go_upto_region 5 with fail
     obtain ⟨W,hW⟩:∃ W,w2.drewN nq=W:=⟨_,rfl⟩
     have hbW:Below w.heap.size w W:=by rw [←hW];exact below_drewN HB2.out _
     rw [hW]
     clear hW
     obtain ⟨TA,hTA⟩:∃ TA:Option Addr,(if c=K then (some ⟨ba,off,none⟩:Option Addr) else some ⟨ba,off+K*2,none⟩)=TA:=⟨_,rfl⟩
     have hT:RowAt w w.heap.size TA 2 M (cellsOf encAt RS):=by
      rw [←hTA]
      split;(· exact HZero.out (some ⟨ba,off,none⟩) (by omega));(· exact HTail.out ba off K rfl HRS.out hK)
     rw [←hM]
     have HM:=Lib.hid hM
     clear hM
     rw [hTA]
     clear hTA
     rcases hE with ⟨hE1,hv⟩ | ⟨hE1,hv⟩
     · skip
       have hv2:(L v0).isEmpty=true:=by rw [←tl];exact hv
       have HC1:=HConc.out (some ⟨ba,off,none⟩) TA K (c - K) HD RS W (by rw [HKe.out];exact (hHH.keep hbW).up hbW.size) (by rw [HMe.out];exact (hT.keep hbW).up hbW.size) (by rw [HKe.out];omega) (by rw [HMe.out];have:=HM.out;omega) (by rw [HKe.out,HMe.out];have:=HM.out;omega)
       rw [HKe.out,HMe.out] at HC1
       have HV2:=Lib.hid hv2
       have HC:=Lib.hid HC1
       have HbW:=Lib.hid hbW
       clear HC1 hbW hT hv2
       go_wp2_with (go_at_call 74;refine HC.out.mono ?_;rintro e w4 ⟨v,rfl,hO⟩)
       go_ret
       exact ⟨v,rfl,HFin.out W v w4 HbW.out (by rw [←HMID.out,HV2.out];exact hO)⟩
     · skip
       have hv2:(L v0).isEmpty=false:=by rw [←tl];exact hv
       have hbs:=bsG_at (P:=Tryz.prog) Tryz.underlying31 attrInfo (by decide) (by decide) #[.string n0,.string v0] rfl W
       obtain ⟨NA,nc,w4,hap,hown,hb4⟩:=HSlice.out (some ⟨ba,off,none⟩) W hbW hHH (Or.inl ⟨_,_,rfl⟩)
       have hLs:=LsN.of_own (l:=HD++[⟨n0,v0⟩]) (k:=2) (enc:=encAt) (A:=NA) (c:=nc) (by rw [List.length_append,HKe.out];exact hown)
       have hl2:(HD++[(⟨n0,v0⟩:At)]).length=K+1:=by rw [List.length_append,HKe.out];rfl
       have hbW4:=bt hbW hb4
       have hcp:=hLs.1.cap
       dsimp only at hcp
       rw [hl2] at hcp
       have HC1:=HConc.out NA TA nc (c - K) (HD++[⟨n0,v0⟩]) RS w4 hLs.1.row.row (by rw [HMe.out];exact (hT.keep hbW4).up hbW4.size) (by rw [hl2];exact hcp) (by rw [HMe.out];have:=HM.out;omega) (by rw [hl2,HMe.out];have:=HM.out;omega)
       rw [hl2,HMe.out,List.append_assoc] at HC1
       have HV2:=Lib.hid hv2
       have HC:=Lib.hid HC1
       have HbW:=Lib.hid hbW4
       clear HC1 hbW hT hv2 hown hb4 hLs hl2 hbW4 hcp
       go_wp2_with (go_at_call 74;refine HC.out.mono ?_;rintro e w5 ⟨v,rfl,hO⟩)
       go_ret
       exact ⟨v,rfl,HFin.out w4 v w5 HbW.out (by rw [←HMID.out,HV2.out];exact hO)⟩
   | true =>
     have hKN:=hfound rfl
     have hM:M=N - (K+1):=by simpa using hrl
     clear hrl hfound
     have hcK:¬ c=K:=by omega
     have b3:(1:Int)≤((N - K:Nat):Int):=by omega
     have b4:(1:Int)≤((c - K:Nat):Int):=by omega
     go_enter Tryz.func56,Tryz.ntmps56
     go_wp2_with (go_at_call 71;refine HS.out.mono ?_;rintro e w2 ⟨rfl,hb2⟩;have HB2:=Lib.hid hb2;clear hb2)
     go_quiet (fail)
     go_upto_region 5 with fail
     obtain ⟨W,hW⟩:∃ W,w2.drewN nq=W:=⟨_,rfl⟩
     have hbW:Below w.heap.size w W:=by rw [←hW];exact below_drewN HB2.out _
     rw [hW]
     clear hW
     obtain ⟨TA,hTA⟩:∃ TA:Option Addr,(if c - K=1 then (some ⟨ba,off+K*2,none⟩:Option Addr) else some ⟨ba,off+K*2+2,none⟩)=TA:=⟨_,rfl⟩
     have hT:RowAt w w.heap.size TA 2 M (cellsOf encAt RS):=by
      rw [←hTA]
      split;(· exact HZero.out (some ⟨ba,off+K*2,none⟩) (by omega));(· have:=HTail.out ba off (K+1) rfl HRS.out (by omega);rw [Nat.add_mul,←Nat.add_assoc] at this;exact this)
     rw [show N - K - 1=M from by omega]
     have HM:=Lib.hid hM
     clear hM
     rw [hTA]
     clear hTA
     rcases hE with ⟨hE1,hv⟩ | ⟨hE1,hv⟩
     · skip
       have hv2:(L v0).isEmpty=true:=by rw [←tl];exact hv
       have HC1:=HConc.out (some ⟨ba,off,none⟩) TA K (c - K - 1) HD RS W (by rw [HKe.out];exact (hHH.keep hbW).up hbW.size) (by rw [HMe.out];exact (hT.keep hbW).up hbW.size) (by rw [HKe.out];omega) (by rw [HMe.out];have:=HM.out;omega) (by rw [HKe.out,HMe.out];have:=HM.out;omega)
       rw [HKe.out,HMe.out] at HC1
       have HV2:=Lib.hid hv2
       have HC:=Lib.hid HC1
       have HbW:=Lib.hid hbW
       clear HC1 hbW hT hv2
       go_wp2_with (go_at_call 74;refine HC.out.mono ?_;rintro e w4 ⟨v,rfl,hO⟩)
       go_ret
       exact ⟨v,rfl,HFin.out W v w4 HbW.out (by rw [←HMID.out,HV2.out];exact hO)⟩
     · skip
       have hv2:(L v0).isEmpty=false:=by rw [←tl];exact hv
       have hbs:=bsG_at (P:=Tryz.prog) Tryz.underlying31 attrInfo (by decide) (by decide) #[.string n0,.string v0] rfl W
       obtain ⟨NA,nc,w4,hap,hown,hb4⟩:=HSlice.out (some ⟨ba,off,none⟩) W hbW hHH (Or.inl ⟨_,_,rfl⟩)
       have hLs:=LsN.of_own (l:=HD++[⟨n0,v0⟩]) (k:=2) (enc:=encAt) (A:=NA) (c:=nc) (by rw [List.length_append,HKe.out];exact hown)
       have hl2:(HD++[(⟨n0,v0⟩:At)]).length=K+1:=by rw [List.length_append,HKe.out];rfl
       have hbW4:=bt hbW hb4
       have hcp:=hLs.1.cap
       dsimp only at hcp
       rw [hl2] at hcp
       have HC1:=HConc.out NA TA nc (c - K - 1) (HD++[⟨n0,v0⟩]) RS w4 hLs.1.row.row (by rw [HMe.out];exact (hT.keep hbW4).up hbW4.size) (by rw [hl2];exact hcp) (by rw [HMe.out];have:=HM.out;omega) (by rw [hl2,HMe.out];have:=HM.out;omega)
       rw [hl2,HMe.out,List.append_assoc] at HC1
       have HV2:=Lib.hid hv2
       have HC:=Lib.hid HC1
       have HbW:=Lib.hid hbW4
       clear HC1 hbW hT hv2 hown hb4 hLs hl2 hbW4 hcp
       go_wp2_with (go_at_call 74;refine HC.out.mono ?_;rintro e w5 ⟨v,rfl,hO⟩)
       go_ret
       exact ⟨v,rfl,HFin.out w4 v w5 HbW.out (by rw [←HMID.out,HV2.out];exact hO)⟩
end
end Go.Proofs.YtobcmlmbblgcdaaGreatDoor

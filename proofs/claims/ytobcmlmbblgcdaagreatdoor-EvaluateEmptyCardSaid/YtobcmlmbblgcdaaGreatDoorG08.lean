/-
  Contracts: the digits at the end of a text (both texts of it); the value of a name in a list (both texts of it).
  The table of the forms of pieces.
  What templates are: pieces, how they are read. Plain functions; no program in sight but for the words of the kinds.
-/
import Derived.Test.YtobcmlmbblgcdaaGreatDoorG05
import Derived.Shelf.Strings.SlTrimAscii
import Derived.Test.YtobcmlmbblgcdaaGreatDoorG00
namespace Go.Proofs.YtobcmlmbblgcdaaGreatDoor
set_option maxRecDepth 100000
section
open Go.RowKit
theorem digit_ascii (j:Nat) (b:UInt8) (h:digitL[j]? = some b):b.toNat<128:=by
 have hm:b∈digitL:=List.mem_of_getElem? h
 simp only [digitL,List.mem_cons,List.not_mem_nil,or_false] at hm
 rcases hm with h | h | h | h | h | h | h | h | h | h <;> subst h <;> decide
def numS (l:Str):Str:=l.drop (Lib.trimRightS l digitL).length
set_option maxHeartbeats 400000 in
theorem Number_any (s:ByteArray) (w:World) (hs:s.size≤9223372036854775807) :
 Calls Tryz.prog 204 #[.string s] w fun e w'=>e=.returned (.string (bs (numS (L s))))∧Below w.heap.size w w':=by
 have HT:=Any.strings_TrimRight_laid Tryz.lays162 (by kernel_rfl) s ⟨#[48,49,50,51,52,53,54,55,56,57]⟩ w hs (by decide) digit_ascii
 have hl:(Lib.trimRightS s.data.toList digitL).length≤s.size:=by
  rw [Lib.trimRightS,List.length_reverse]
  have:=(List.dropWhile_sublist (digitL.contains ·) (l:=s.data.toList.reverse)).length_le
  rw [List.length_reverse] at this
  rw [←len_L];exact this
 have HN:Hid (∀ q,q=(Lib.trimRightS s.data.toList digitL).length→L (s.extract q s.size)=numS (L s)):=fun q hq=>by
  rw [hq,L_extract,numS,List.take_of_length_le (by rw [len_L];exact Nat.le_refl _)]
 have HZ:=Lib.hid (size_bs (Lib.trimRightS s.data.toList digitL))
 change Calls Tryz.prog 240 #[.string s,.string ⟨#[48,49,50,51,52,53,54,55,56,57]⟩] w (fun e w'=>e=.returned (.string (bs (Lib.trimRightS s.data.toList digitL)))∧Below w.heap.size w w') at HT
 generalize bs (Lib.trimRightS s.data.toList digitL)=r at *
 generalize (Lib.trimRightS s.data.toList digitL).length=q at *
 have hr:r.size≤s.size:=by rw [HZ.out];exact hl
 clear hl
 go_enter Tryz.func204,Tryz.ntmps204
 go_wp2_with (go_at_call 240;refine HT.mono ?_;rintro e w' ⟨rfl,hb⟩)
 go_ret
 exact ⟨ret_str (eq_bs (HN.out _ HZ.out)),hb⟩
theorem getA_hit (l:List At) (nm:Str) (k:Nat) (x:At) (hx:l[k]? = some x) (hno:∀ j y,j<k→l[j]? = some y→(L y.name == nm)=false) (hyes:(L x.name == nm)=true):getA l nm=some x.val:=by
 induction l generalizing k with
 | nil=>simp at hx
 | cons y l ih =>
   cases k with
   | zero =>
     simp at hx
     subst hx
     simp [getA,hyes]
   | succ k =>
     have h0:=hno 0 y (by omega) (by simp)
     have:=ih k (by simpa using hx) (fun j z hj hz=>hno (j+1) z (by omega) (by simpa using hz))
     simp only [getA,List.find?_cons,h0] at this ⊢
     exact this
theorem getA_miss (l:List At) (nm:Str) (hno:∀ (j:Nat) (y:At),l[j]? = some y→(L y.name == nm)=false):getA l nm=none:=by
 unfold getA
 rw [List.find?_eq_none.2 (fun x hx=>by
  obtain ⟨j,hj⟩:=List.getElem?_of_mem hx
  rw [hno j x hj];simp)]
 rfl
structure Lst where
 A:Option Addr
 c:Nat
 l:List At
def firstV:List Lst→Str→ByteArray
 | [],_=>⟨#[]⟩
 | x :: ls,nm=>match getA x.l nm with
   | some v=>v
   | none=>firstV ls nm
theorem firstV_hit (ls:List Lst) (nm:Str) (k:Nat) (x:Lst) (v:ByteArray) (hx:ls[k]? = some x) (hno:∀ (j:Nat) (y:Lst),j<k→ls[j]? = some y→getA y.l nm=none) (hv:getA x.l nm=some v):firstV ls nm=v:=by
 induction ls generalizing k with
 | nil=>simp at hx
 | cons y ls ih =>
   cases k with
   | zero =>
     simp at hx
     subst hx
     simp [firstV,hv]
   | succ k =>
     have h0:=hno 0 y (by omega) (by simp)
     simp only [firstV,h0]
     exact ih k (by simpa using hx) (fun j z hj hz=>hno (j+1) z (by omega) (by simpa using hz))
theorem firstV_miss (ls:List Lst) (nm:Str) (hno:∀ (j:Nat) (y:Lst),ls[j]? = some y→getA y.l nm=none):firstV ls nm=⟨#[]⟩:=by
 induction ls with
 | nil=>rfl
 | cons y ls ih =>
   simp only [firstV,hno 0 y (by simp)]
   exact ih (fun j z hz=>hno (j+1) z (by simpa using hz))
set_option maxHeartbeats 1000000 in
theorem first_any (g off c:Nat) (ls:List Lst) (nm:ByteArray) (w:World) (hg:g<w.heap.size) (ho:∀ (i:Nat) (x:Lst),ls[i]? = some x→w.cell? ⟨g,off+i,none⟩=some (.slice x.A x.l.length x.c))
 (hi:∀ x∈ls,RowAt w w.heap.size x.A 2 x.l.length (cellsOf encAt x.l)∧x.l.length≤4611686018427387904) (h0:ls.length≤1000) :
 Calls Tryz.prog 209 #[.string nm,.slice (some ⟨g,off,none⟩) ls.length c] w fun e w'=>e=.returned (.string (firstV ls (L nm)))∧Below w.heap.size w w':=by
 have HO:=Lib.hid ho
 have HI:=Lib.hid hi
 clear ho hi
 generalize hM:ls.length=M at h0 ⊢
 have HM:=Lib.hid hM
 clear hM
 go_enter Tryz.func209,Tryz.ntmps209
 go_wp2
 go_loopg [11] M (fun gk i wr=>∃ k:Nat,k+gk=M∧i=.int .i64 k∧Hid (∀ (j:Nat) (y:Lst),j<k→ls[j]? = some y→getA y.l (L nm)=none)∧Hid (Below w.heap.size w wr))
 case atStart=>exact ⟨0,by omega,rfl,fun j y hj=>absurd hj (by omega),Below.refl _ _⟩
 case round =>
  obtain ⟨k,hk,rfl,hp,hb⟩:=hrel
  have hk':k≤M:=by omega
  have HK:=Lib.hid hk
  clear hk
  by_cases hlt:k<M
  · have hlt' : k<ls.length:=by rw [HM.out];exact hlt
    obtain ⟨x,hx⟩:∃ x,ls[k]? = some x:=⟨_,List.getElem?_eq_getElem hlt'⟩
    have hc:wr.cell? ⟨g,off+k,none⟩=some (.slice x.A x.l.length x.c):=by
     rw [hb.out.cell (p:=⟨g,off+k,none⟩) hg]
     exact HO.out k x hx
    have hx2:=HI.out x (List.mem_of_getElem? hx)
    have HX:=Lib.hid hx
    have HR:=Lib.hid hx2.1
    have hN:=hx2.2
    clear hx hx2 hlt'
    generalize hNN:x.l.length=N at *
    have HN:=Lib.hid hNN
    clear hNN
    go_wp2
    obtain ⟨wo,rfl⟩:∃ wo:World,wo=wr:=⟨_,rfl⟩
    go_loopg [17] N (fun gi i wi=>∃ m:Nat,m+gi=N∧i=.int .i64 m∧Hid (∀ (j:Nat) (y:At),j<m→x.l[j]? = some y→(L y.name == L nm)=false)∧Hid (Below w.heap.size w wi))
    case atStart=>exact ⟨0,by omega,rfl,fun j y hj=>absurd hj (by omega),hb⟩
    case round =>
     obtain ⟨m,hm,rfl,hq,hbi⟩:=hrel
     have hm':m≤N:=by omega
     have HMm:=Lib.hid hm
     clear hm
     by_cases hlm:m<N
     · have hlm':m<x.l.length:=by rw [HN.out];exact hlm
       have hrow:=HR.out
       rw [←HN.out] at hrow
       obtain ⟨ba,off',hA,hB,hcc⟩:=hrow.cell encAt_len hlm'
       obtain ⟨y,hy⟩:∃ y,x.l[m]? = some y:=⟨_,List.getElem?_eq_getElem hlm'⟩
       have c0:wr.cell? ⟨ba,off'+m*2,none⟩=some (.string y.name):=by
        rw [hbi.out.cell (p:=⟨ba,off'+m*2,none⟩) hB];exact hcc m y hy 0 _ rfl
       have c1:wr.cell? ⟨ba,off'+m*2+1,none⟩=some (.string y.val):=by
        rw [hbi.out.cell (p:=⟨ba,off'+m*2+1,none⟩) hB];exact hcc m y hy 1 _ rfl
       have HY:=Lib.hid hy
       clear hy hcc hB hlm' hrow
       rw [hA]
       have HA:=Lib.hid hA
       clear hA
       cases hq2:(y.name.toList == nm.toList)
       · go_wp2
         have hm:=HMm.out
         rw [←HA.out]
         go_roundg (gk - 1)
         case measure=>omega
         case rel =>
          refine ⟨m+1,by omega,by go_num,fun j z hj hz=>?_,?_⟩
          · rcases (by omega:j=m∨j<m) with e | e
            · subst e
              rw [HY.out] at hz
              injection hz with hz
              rw [←hz,←tl,←tl]
              exact hq2
            · exact hq.out j z e hz
          · exact hbi.out.alloc hbi.out.size _
       · go_wp2
         go_ret
         refine ⟨?_,hbi.out.alloc hbi.out.size _⟩
         rw [firstV_hit ls (L nm) k x y.val HX.out hp.out (getA_hit x.l (L nm) m y HY.out hq.out (by rw [←tl,←tl];exact hq2))]
         rfl
     · go_wp2
       have hk:=HK.out
       go_roundg (M - (k+1))
       case measure=>omega
       case rel =>
        refine ⟨k+1,by omega,by go_num,fun j z hj hz=>?_,hbi⟩
        rcases (by omega:j=k∨j<k) with e | e
        · subst e
          rw [HX.out] at hz
          injection hz with hz
          rw [←hz]
          exact getA_miss x.l (L nm) fun j' y' hy'=>hq.out j' y' (by have:=(List.getElem?_eq_some_iff.1 hy').1;rw [HN.out] at this;omega) hy'
        · exact hp.out j z e hz
  · go_wp2
    go_ret
    refine ⟨?_,hb.out⟩
    rw [firstV_miss ls (L nm) (fun j y hy=>hp.out j y (by have:=(List.getElem?_eq_some_iff.1 hy).1;rw [HM.out] at this;omega) hy)]
    rfl
end
section
open Go.RowKit
def sv (l:Str):Value:=.string ⟨l.toArray⟩
def fv (n:Nat):Value:=.func (.func n) #[] #[]
def formsZero:Array Value:=(List.replicate 12 [sv [],sv [],.nilFunc,.nilFunc]).flatten.toArray
def longN:Nat→Str
 | 2=>[107,101,114,110,101,108]
 | 3=>[110,117,109,98,101,114]
 | 4=>[100,101,118,112,97,116,104]
 | 5=>[105,100]
 | 6=>[100,114,105,118,101,114]
 | 7=>[97,116,116,114]
 | 8=>[101,110,118]
 | 9=>[114,101,115,117,108,116]
 | 10=>[112,97,114,101,110,116]
 | 11=>[110,97,109,101]
 | _=>[]
def shortN:Nat→Str
 | 2=>[107]
 | 3=>[110]
 | 4=>[112]
 | 5=>[98]
 | 6=>[100]
 | 7=>[115]
 | 8=>[69]
 | 9=>[99]
 | 10=>[80]
 | _=>[]
def braV:Nat→Value
 | 7=>fv 174
 | 8=>fv 160
 | _=>.nilFunc
def valV:Nat→Value
 | 1=>fv 201
 | 2=>fv 202
 | 3=>fv 203
 | 4=>fv 205
 | 5=>fv 206
 | 6=>fv 207
 | 7=>fv 208
 | 8=>fv 210
 | 9=>fv 211
 | 10=>fv 212
 | 11=>fv 213
 | _=>.nilFunc
def formRow (k:Nat):List Value:=[sv (longN k),sv (shortN k),braV k,valV k]
def formsA:Array Value:=((List.range 12).map formRow).flatten.toArray
theorem forms_info:(Tryz.prog.info? 246).map (fun i=>(i.zero,i.size))=some (some (.agg formsZero),48):=by kernel_rfl
theorem form_size:(Tryz.prog.info? 245).map (·.size)=some 4:=by kernel_rfl
theorem formsA_size:formsA.size=48:=by kernel_rfl
theorem formsA_one:formsA.all (·.oneCell')=true:=by kernel_rfl
set_option maxHeartbeats 4000000 in
theorem forms_any (w:World) :
 Calls Tryz.prog 169 #[] w fun e w'=>e=.returned (.agg formsA)∧Below w.heap.size w w':=by
 have hz:=(zero_of_info forms_info).1
 have Hi:=Lib.hid (zero_of_info forms_info).2
 have Hz:=Lib.hid hz
 clear hz
 go_enter Tryz.func169,Tryz.ntmps169
 have Hs:=Lib.hid formsA_size
 have Ho:=Lib.hid formsA_one
 go_wp2_with (first | (refine wpList_alloc_known rfl 246 rfl (.agg formsZero) (Hz.out _) ?_) | (refine wpList_store_last rfl 245 _ _ rfl _ _ _ _ _ (World.size_alloc _ _) rfl rfl (by (try simp only [size_setAll]);decide) (by exact form_size) (by simp [Value.oneCell']) ?_) | (refine wpList_load_row rfl 246 _ rfl (w.heap.size+1) rfl 246 formsA (0,0) _ ((heap_alloc2_new w _ _).trans (congrArg (fun c=>some (Obj.cells c 246 (0,0))) (by kernel_rfl))) Tryz.underlying246 rfl (by rw [Hs.out];exact Hi.out) ?_) | (refine wpList_store_row rfl 246 _ _ rfl w.heap.size formsA rfl rfl 246 formsZero (heap_alloc2_old w _ _) (by rw [Hs.out];exact Hi.out) (by rw [Hs.out];decide) Ho.out ?_))
 refine bodyPost_ret (v:=.agg formsA) (results_cell_row rfl _ _ w.heap.size 246 formsA (0,0) _ rfl (setRow_heap _ _ _ _ _ _ (heap_alloc2_old w _ _)) Tryz.underlying246 rfl (by rw [Hs.out];exact Hi.out)) rfl ⟨rfl,?_⟩
 exact below_setRow (((Below.refl _ _).alloc (Nat.le_refl _) _).alloc (by simp) _) (Nat.le_refl _) _
theorem forms_row (k:Nat) (hk:k<12) (w:World):(Instr.index 246 (.agg formsA) (.int .i64 k)).run Tryz.prog w=.ok (.agg #[.string ⟨(longN k).toArray⟩,.string ⟨(shortN k).toArray⟩,braV k,valV k]) w:=by
 rcases (by omega:k=0∨k=1∨k=2∨k=3∨k=4∨k=5∨k=6∨k=7∨k=8∨k=9∨k=10∨k=11) with h | h | h | h | h | h | h | h | h | h | h | h <;> subst h <;> kernel_rfl
attribute [irreducible] formsA
end
section
open Go.RowKit
structure Pc where
 kind:Int
 text:ByteArray
 word:Int
 more:Bool
def encPc (p:Pc):List Value:=[.int .i64 p.kind,.string p.text,.int .i64 p.word,.bool p.more]
theorem encPc_len (p:Pc):(encPc p).length=4:=rfl
def txt (t:ByteArray):Pc:=⟨1,t,0,false⟩
def setLast (l:List Pc) (f:Pc→Pc):List Pc:=l.modify (l.length - 1) f
def addP (l:List Pc) (p:Pc):List Pc :=
 if p.kind=1∧(l.getLast?.map (·.kind))=some 1 then setLast l fun q=>{ q with text:=q.text++p.text } else l++[p]
def lowL:Str:=[97,98,99,100,101,102,103,104,105,106,107,108,109,110,111,112,113,114,115,116,117,118,119,120,121,122]
def wordLen (long:Bool) (r:Str):Nat:=if long then r.length - (Lib.trimLeftS r lowL).length else min 1 r.length
def isKind (long:Bool) (w:Str) (k:Nat):Bool := !w.isEmpty && ((long && longN k == w) || (!long && shortN k == w))
def kindOf (long:Bool) (w:Str):Nat:=((List.range 12).find? (isKind long w)).getD 0
theorem find_first (p:Nat→Bool) (n k:Nat) (hk:k<n) (h1:p k=true) (h0:∀ j,j<k→p j=false):(List.range n).find? p=some k:=by
 rw [List.find?_eq_some_iff_append]
 refine ⟨h1,List.range k,(List.range n).drop (k+1),?_,fun a ha=>by rw [h0 a (List.mem_range.1 ha)];rfl⟩
 have e1:List.range k=(List.range n).take k:=by rw [List.take_range];congr 1;omega
 have e2:k :: (List.range n).drop (k+1)=(List.range n).drop k:=by
  rw [List.drop_eq_getElem_cons (i:=k) (by simpa using hk)];simp
 rw [e1,e2,List.take_append_drop]
theorem kindOf_hit (long:Bool) (w:Str) (k:Nat) (hk:k<12) (h1:isKind long w k=true) (h0:∀ j,j<k→isKind long w j=false):kindOf long w=k:=by
 rw [kindOf,find_first _ 12 k hk h1 h0];rfl
theorem kindOf_miss (long:Bool) (w:Str) (h0:∀ j,j<12→isKind long w j=false):kindOf long w=0:=by
 rw [kindOf,List.find?_eq_none.2 (fun x hx=>by rw [h0 x (List.mem_range.1 hx)];simp)];rfl
theorem kindOf_lt (long:Bool) (w:Str):kindOf long w<12:=by
 unfold kindOf
 cases h:(List.range 12).find? (isKind long w) with
 | none=>simp
 | some k=>exact List.mem_range.1 (List.mem_of_find?_eq_some h)
def bracesS (r:Str):Option (Str × Str) :=
 match r with
 | []=>none
 | b :: t=>if b=123 then (if (Lib.cut t [125]).2.2 then some ((Lib.cut t [125]).1,(Lib.cut t [125]).2.1) else none) else none
def countS (t:Str):Option (Int × Bool) :=
 match (List.range 100).find? (fun n=>decide (1≤n) && Lib.decDigits n == Lib.trimSuffix t [43]) with
 | some n=>some (n,Lib.hasSuffix t [43])
 | none=>none
def placeS (k:Nat) (r:Str):Option (Pc × Str) :=
 if k=0 then none
 else if k=7 then (bracesS r).bind fun (t,r')=>if validS t then some (⟨7,bs t,0,false⟩,r') else none
 else if k=8 then (bracesS r).bind fun (t,r')=>if keyS t then some (⟨8,bs t,0,false⟩,r') else none
 else if k=9∧r.head? = some 123 then (bracesS r).bind fun (t,r')=>(countS t).map fun (n,m)=>(⟨9,bs [],n,m⟩,r')
 else some (⟨k,bs [],0,false⟩,r)
def pieceS (c:UInt8) (r:Str):Option (Pc × Str) :=
 if r.head? = some c then some (txt (bs [c]),r.tail) else placeS (kindOf (c == 36) (r.take (wordLen (c == 36) r))) (r.drop (wordLen (c == 36) r))
def sign (c:UInt8):Bool:=c == 36 || c == 37
def parseF:Nat→Str→List Pc→Option (List Pc)
 | _,[],acc=>some acc
 | 0,_ :: _,_=>none
 | n+1,c :: r,acc=>if sign c then match pieceS c r with
  | some (p,r')=>parseF n r' (addP acc p)
  | none=>none
  else parseF n r (addP acc (txt (bs [c])))
def parseS (s:Str):Option (List Pc):=parseF s.length s []
theorem bs_append (a b:Str):bs a++bs b=bs (a++b):=L_inj (by rw [L_append,L_bs,L_bs,L_bs])
theorem setLast_snoc (l:List Pc) (q:Pc) (f:Pc→Pc):setLast (l++[q]) f=l++[f q]:=by
 unfold setLast
 rw [List.length_append,List.length_singleton,Nat.add_sub_cancel,List.modify_eq_take_drop]
 simp []
theorem addP_txt (l:List Pc) (a b:Str):addP (addP l (txt (bs a))) (txt (bs b))=addP l (txt (bs (a++b))):=by
 rcases List.eq_nil_or_concat l with h | ⟨m,q,h⟩
 · subst h
   have e:addP [] (txt (bs a))=[]++[txt (bs a)]:=by simp [addP]
   rw [e]
   simp only [addP,List.getLast?_append,List.getLast?_singleton,Option.some_or,Option.map_some]
   simp [txt,bs_append,setLast]
 · rw [List.concat_eq_append] at h
   subst h
   by_cases hq:q.kind=1
   · have e:∀ t,addP (m++[q]) (txt t)=m++[{ q with text:=q.text++t }]:=fun t=>by
      rw [addP,if_pos ⟨rfl,by simp [hq]⟩,setLast_snoc];rfl
     rw [e,e,addP,if_pos ⟨rfl,by simp [hq]⟩,setLast_snoc]
     simp [txt,ByteArray.append_assoc,bs_append]
   · have e:∀ t,addP (m++[q]) (txt t)=(m++[q])++[txt t]:=fun t=>by
      rw [addP,if_neg (by simp [hq])]
     rw [e,e,addP,if_pos ⟨rfl,by simp [txt]⟩,setLast_snoc]
     simp [txt,bs_append]
theorem parseF_run (run rest:Str) (h:∀ c∈run,sign c=false) (hr:run≠[]) (n:Nat) (acc:List Pc):parseF (n+run.length) (run++rest) acc=parseF n rest (addP acc (txt (bs run))):=by
 induction run generalizing acc with
 | nil=>exact absurd rfl hr
 | cons c run ih =>
   have hc:=h c (by simp)
   rw [List.length_cons,show n+(run.length+1)=(n+run.length)+1 from by omega,List.cons_append]
   rw [parseF,hc]
   simp only [Bool.false_eq_true,if_false]
   by_cases h0:run=[]
   · subst h0;rfl
   · rw [ih (fun d hd=>h d (by simp [hd])) h0,addP_txt];rfl
end
end Go.Proofs.YtobcmlmbblgcdaaGreatDoor

/-
  Small facts on strings, lists and worlds, for the contracts of this seat; no program in sight.
  Contracts of package name: Text; the sets of bytes.
  Contracts of package coldplugmake: Fold, the tape's Next and One.
  Rows of values in memory: a slice whose cells are known; no program in sight.
  Lists whose elements bear lists: a placed list; lists of such elements, read and built; no program in sight.
  What a function that reads the tape and makes memory of its own knows as it goes: the tape, and that nothing else that was there has turned.
  Laws of the walk for blocks of many cells: an allocation whose zero value has a name; a store into the midst of the block that was made last. Over any program.
  Loads and stores of whole structs, behind names that the walk does not open; rows of normal form. Over any program.
  Small facts on blocks that have just been made; rows of texts.
  The place of the first element of a list that a predicate takes; no program in sight.
  A law at the append of a row that may be empty to a row of the call's own. Over any program.
  strings.HasPrefix, by the shelf's contract.
  Replacing one byte, in plain words; no program in sight.
-/
import Derived.WalkKit
import Derived.WalkSpells
import Derived.WalkLawsBesides
import Derived.Handy
import Derived.LoopTactic
import Derived.Lib.Hide
import Derived.Deep.QuietTactic
import Derived.BigQuiet
import Derived.Deep.LoopGhost
import Derived.Deep.DeepFit
import Derived.Deep.RegionWith
import Derived.Deep.AppendLies
import Derived.StillTailTactics
import Derived.Deep.RegionHeld3
import Derived.Lib.Strings
import Derived.Test.YtobcmlmbblgcdaaGreatDoorProg
import Derived.Deep.WholeRow
import Derived.Laws.OwnMore
import Derived.Deep.MidRow
import Derived.Laws.EntriesVeiled
import Derived.Shelf.SlicesQ.Load
import Derived.Great.BuildSlice
import Derived.RangeFuncKeeps
import Derived.RangeFuncFrom
import Derived.Lib.Replace
import Derived.Laws.AppendOwnNone
import Derived.Test.YtobcmlmbblgcdaaGreatDoorShelf
import Derived.Lib.SplitLaws
import Derived.Lib.CountLaws
namespace Go.Proofs.YtobcmlmbblgcdaaGreatDoor
set_option maxRecDepth 100000
section
open Go.RowKit
abbrev Str:=List UInt8
abbrev L (s:ByteArray):Str:=s.data.toList
def bs (l:Str):ByteArray:=⟨l.toArray⟩
theorem L_bs (l:Str):L (bs l)=l:=by simp [L,bs]
theorem bs_L (s:ByteArray):bs (L s)=s:=by simp [L,bs]
theorem size_bs (l:Str):(bs l).size=l.length:=by simp [bs,ByteArray.size]
theorem len_L (s:ByteArray):(L s).length=s.size:=Array.length_toList
theorem L_inj {a b:ByteArray} (h:L a=L b):a=b:=by rw [←bs_L a,←bs_L b,h]
theorem L_get (s:ByteArray) (k:Nat) (h:k<s.size):(L s)[k]'(by rw [len_L];exact h)=s[k]:=rfl
theorem eq_bs {r:ByteArray} {l:Str} (h:L r=l):r=bs l:=by rw [←h,bs_L]
theorem take_snoc (s:ByteArray) (k:Nat) (h:k<s.size):(L s).take (k+1)=(L s).take k++[s[k]]:=by
 rw [List.take_succ_eq_append_getElem (by rw [len_L];exact h)];rfl
theorem drop_cons (s:ByteArray) (k:Nat) (h:k<s.size):(L s).drop k=s[k] :: (L s).drop (k+1):=by
 rw [List.drop_eq_getElem_cons (by rw [len_L];exact h)];rfl
theorem take_all (s:ByteArray) (k:Nat) (h:¬ k<s.size):(L s).take k=L s:=List.take_of_length_le (by rw [len_L];omega)
theorem tl (s:ByteArray):s.toList=L s:=Lib.toList_data s
theorem L_nil {s:ByteArray} (h:s.toList=[]):L s=[]:=by rw [←tl];exact h
theorem L_ne {s:ByteArray} (h:¬ s.toList=[]):(L s).isEmpty=false:=by rw [←tl];cases hs:s.toList with | nil=>exact absurd hs h | cons a b=>rfl
theorem L_extract (s:ByteArray) (a b:Nat):L (s.extract a b)=((L s).take b).drop a:=by
 simp only [L,ByteArray.data_extract,Array.toList_extract,List.extract_eq_take_drop]
 rw [List.drop_take]
theorem L_append (a b:ByteArray):L (a++b)=L a++L b:=by simp [L,ByteArray.data_append]
theorem size_extract (s:ByteArray) (a b:Nat):(s.extract a b).size=min b s.size - a:=by rw [←len_L,L_extract,List.length_drop,List.length_take,len_L]
theorem bt {w a b:World} (h:Below w.heap.size w a) (k:Below a.heap.size a b):Below w.heap.size w b:=h.trans (k.mono h.size)
theorem below_drewN {B:Nat} {a w:World} (h:Below B a w) (n:Nat):Below B a (w.drewN n):=⟨h.os,h.tape,h.output,h.size,h.block⟩
theorem grown_refl (w:World) (row:Option Nat):w.grownBy w row:=⟨rfl,rfl,rfl,Nat.le_refl _,fun _ _ _=>rfl⟩
theorem grown_drewN (w:World) (k:Nat) (row:Option Nat):w.grownBy (w.drewN k) row:=⟨rfl,rfl,rfl,Nat.le_refl _,fun _ _ _=>rfl⟩
theorem ret_bool {a b:Bool} (h:a=b):Ending.returned (.bool a)=.returned (.bool b):=by rw [h]
theorem ret_int {k:IntKind} {a b:Int} (h:a=b):Ending.returned (.int k a)=.returned (.int k b):=by rw [h]
theorem ret_str {a b:ByteArray} (h:a=b):Ending.returned (.string a)=.returned (.string b):=by rw [h]
end
section
open Go.RowKit
theorem strInfo:(Tryz.prog.info? 9).map (fun i=>(i.zero,i.size,i.bytes))=some (some (.string ⟨#[]⟩),1,16):=by kernel_rfl
def pr (c:UInt8):Bool:=decide (32≤(c.toNat:Int)) && decide ((c.toNat:Int)≤126)
def printS (l:Str):Bool:=l.all pr
def textS (l:Str):Bool:=printS l && decide (l.length≤256)
theorem printS_snoc (l:Str) (c:UInt8):printS (l++[c])=(printS l && pr c):=by simp [printS]
theorem printS_no {l:Str} {k:Nat} (s:ByteArray) (hk:k<s.size) (hl:L s=l) (h:pr s[k]=false):printS l=false:=by
 subst hl
 rw [printS,List.all_eq_false]
 exact ⟨s[k],by rw [←L_get s k hk];exact List.getElem_mem _,by simp [h]⟩
set_option maxHeartbeats 400000 in
theorem Text_any (s:ByteArray) (w:World) (hs:s.size≤9223372036854775807) :
 Calls Tryz.prog 196 #[.string s] w fun e w'=>e=.returned (.bool (textS (L s)))∧w=w':=by
 go_enter Tryz.func196,Tryz.ntmps196
 go_wp2
 go_loop [6] (fun i=>∃ k:Nat,k≤s.size∧i=.int .i64 k∧Hid (printS ((L s).take k)=true)) (fun i=>s.size - (intOf i).toNat)
 case atStart=>exact ⟨0,Nat.zero_le _,rfl,rfl⟩
 case round =>
  obtain ⟨k,hk,rfl,hp⟩:=hrel
  go_wp2
  case roundEnd =>
   go_round
   case rel=>exact ⟨k+1,by omega,by go_num,by
    show printS _=true
    rw [take_snoc s k (by omega),printS_snoc,hp.out]
    simp [pr];omega⟩
   case measure=>simp [intOf];omega
  · go_ret
    exact ⟨ret_bool (by rw [textS,printS_no s (by assumption) rfl (by simp [pr];omega)];rfl),rfl⟩
  · go_ret
    exact ⟨ret_bool (by rw [textS,printS_no s (by assumption) rfl (by simp [pr];omega)];rfl),rfl⟩
  · go_ret
    refine ⟨ret_bool ?_,rfl⟩
    have h:=hp.out
    rw [take_all s k (by assumption)] at h
    rw [textS,h,len_L]
    simp
    omega
def setA (f:Nat→Bool):Array Value:=Array.ofFn (n:=256) fun i=>.bool (f i)
def addS (f:Nat→Bool) (l:Str):Nat→Bool:=fun c=>f c || l.any fun b=>b.toNat == c
def noneS:Nat→Bool:=fun _=>false
theorem set_info:(Tryz.prog.info? 259).map (fun i=>(i.zero,i.size))=some (some (.agg (setA noneS)),256):=by kernel_rfl
theorem size_setA (f:Nat→Bool):(setA f).size=256:=by simp [setA]
theorem setA_get (f:Nat→Bool) (c:Nat) (h:c<256):(setA f)[c]? = some (.bool (f c)):=by
 simp [setA,h]
theorem below_setRow {B:Nat} {a w:World} (h:Below B a w) {g:Nat} (hg:B≤g) (cs:Array Value):Below B a (w.setRow g cs) :=
 h.trans ⟨rfl,rfl,rfl,by simp,fun k hk=>setRow_other w g k cs (by omega)⟩
theorem setA_set (f:Nat→Bool) (c:Nat) (h:c<256):(setA f).setIfInBounds c (.bool true)=setA (fun d=>f d || d == c):=by
 apply Array.ext_getElem?
 intro i
 rw [Array.getElem?_setIfInBounds]
 by_cases e:c=i
 · subst e
   rw [if_pos rfl,if_pos (by rw [size_setA];exact h),setA_get _ _ h]
   simp
 · have e':(i == c)=false:=by rw [beq_eq_false_iff_ne];exact fun h=>e h.symm
   rw [if_neg e]
   by_cases hi:i<256
   · rw [setA_get _ _ hi,setA_get _ _ hi,e',Bool.or_false]
   · rw [Array.getElem?_eq_none (by rw [size_setA];omega),Array.getElem?_eq_none (by rw [size_setA];omega)]
theorem setA_one (f:Nat→Bool):(setA f).all (·.oneCell')=true:=by
 rw [Array.all_eq_true]
 intro i hi
 have h:=setA_get f i (by rw [size_setA] at hi;exact hi)
 rw [Array.getElem?_eq_getElem hi] at h
 have h':=Option.some.inj h
 rw [h']
 simp [Value.oneCell']
theorem addS_nil (f:Nat→Bool):addS f []=f:=by funext c;simp [addS]
attribute [irreducible] setA noneS
theorem addS_snoc (f:Nat→Bool) (l:Str) (b:UInt8):(fun d=>addS f l d || d == b.toNat)=addS f (l++[b]):=by
 funext d
 simp only [addS,List.any_append,List.any_cons,List.any_nil,Bool.or_false,Bool.or_assoc]
 rw [show (d == b.toNat)=(b.toNat == d) from by rw [Bool.eq_iff_iff];simp;exact eq_comm]
set_option maxHeartbeats 400000 in
theorem plus_any (f:Nat→Bool) (s:ByteArray) (w:World) (hs:s.size≤9223372036854775807) :
 Calls Tryz.prog 189 #[.agg (setA f),.string s] w fun e w'=>e=.returned (.agg (setA (addS f (L s))))∧Below w.heap.size w w':=by
 have hz:=(zero_of_info set_info).1
 have hi:=(zero_of_info set_info).2
 go_enter Tryz.func189,Tryz.ntmps189
 go_wp2
 clear hz
 have Hi:=Lib.hid hi
 clear hi
 go_loopg [8] (s.size) (fun g i wr=>∃ k:Nat,k+g=s.size∧i=.int .i64 k∧wr=(w.alloc (.cells (setA (addS f ((L s).take k))) 259)).alloc (.cells (setA noneS) 259))
 case atStart=>exact ⟨0,by omega,rfl,by simp [addS_nil]⟩
 case round =>
  obtain ⟨k,hk,rfl,rfl⟩:=hrel
  by_cases hlt:k<s.size
  · have hb:(s[k].toNat:Int)<256:=by have:=s[k].toNat_lt;omega
    have hg:=setA_get (addS f ((L s).take k)) s[k].toNat (by omega)
    have HG:=Lib.hid (setA_set (addS f ((L s).take k)) s[k].toNat (by omega))
    have Hk:=Lib.hid hk
    clear hk
    go_wp2
    have hk:=Hk.out
    go_roundg (gk - 1)
    case measure=>omega
    case rel =>
     refine ⟨k+1,by omega,by go_num,?_⟩
     rw [HG.out,addS_snoc,take_snoc s k hlt]
  · have hall:=take_all s k hlt
    rw [hall]
    clear hall
    have h1:=size_setA (addS f (L s))
    have h2:=setA_one (addS f (L s))
    have h0:=size_setA noneS
    have HS:Hid (∃ S,setA (addS f (L s))=S):=⟨_,rfl⟩
    obtain ⟨S,hS⟩:=HS.out
    rw [hS] at h1 h2 ⊢
    have HS:=Lib.hid hS
    clear hS
    generalize setA noneS=S0 at *
    have hl1:=heap_alloc2_old w (.cells S 259) (.cells S0 259)
    have hl2:=heap_alloc2_new w (.cells S 259) (.cells S0 259)
    have H1:=Lib.hid hl1
    have H2:=Lib.hid hl2
    have H3:=Lib.hid h1
    have H4:=Lib.hid h2
    have H5:=Lib.hid h0
    clear hl1 hl2 h1 h2 h0
    go_wp2_with (first | (refine wpList_load_row rfl 259 _ rfl _ rfl _ _ _ _ H1.out Tryz.underlying259 rfl (by rw [H3.out];exact Hi.out) ?_) | (refine wpList_store_row rfl 259 _ _ rfl _ _ rfl rfl _ _ H2.out (by rw [H3.out];exact Hi.out) (by rw [H3.out,H5.out]) H4.out ?_))
    refine bodyPost_ret (v:=.agg S) (results_cell_row rfl _ _ (w.heap.size+1) 259 S (0,0) _ rfl (setRow_heap _ _ _ _ _ _ H2.out) Tryz.underlying259 rfl (by rw [H3.out];exact Hi.out)) rfl ⟨by rw [HS.out],?_⟩
    exact below_setRow (((Below.refl _ _).alloc (Nat.le_refl _) _).alloc (by simp) _) (by omega) _
theorem has_cell (f:Nat→Bool) (w:World) (c:Nat) (h:c<256):(w.alloc (.cells (setA f) 259)).cell? ⟨w.heap.size,c,none⟩=some (.bool (f c)):=by
 rw [cell_of_row _ _ c (setA f) _ (0,0) (heap_alloc_new w _),setA_get f c h]
def hasS (f:Nat→Bool) (l:Str):Bool:=l.all fun b=>f b.toNat
theorem hasS_snoc (f:Nat→Bool) (l:Str) (c:UInt8):hasS f (l++[c])=(hasS f l && f c.toNat):=by simp [hasS]
theorem hasS_no {f:Nat→Bool} {l:Str} {k:Nat} (s:ByteArray) (hk:k<s.size) (hl:L s=l) (h:f s[k].toNat=false):hasS f l=false:=by
 subst hl
 rw [hasS,List.all_eq_false]
 exact ⟨s[k],by rw [←L_get s k hk];exact List.getElem_mem _,by simp [h]⟩
set_option maxHeartbeats 400000 in
theorem has_any (f:Nat→Bool) (s:ByteArray) (w:World) (hs:s.size≤9223372036854775807) :
 Calls Tryz.prog 190 #[.agg (setA f),.string s] w fun e w'=>e=.returned (.bool (hasS f (L s)))∧Below w.heap.size w w':=by
 go_enter Tryz.func190,Tryz.ntmps190
 go_wp2
 go_loopg [8] (s.size) (fun g i wr=>∃ k:Nat,k+g=s.size∧i=.int .i64 k∧w.alloc (.cells (setA f) 259)=wr∧Hid (hasS f ((L s).take k)=true))
 case atStart=>exact ⟨0,by omega,rfl,rfl,rfl⟩
 case round =>
  obtain ⟨k,hk,rfl,rfl,hp⟩:=hrel
  have hkk:k≤s.size:=by omega
  have Hk:=Lib.hid hk
  clear hk
  by_cases hlt:k<s.size
  · have hb:(s[k].toNat:Int)<256:=by have:=s[k].toNat_lt;omega
    have hc:=has_cell f w s[k].toNat (by omega)
    cases hf:f s[k].toNat
    · rw [hf] at hc
      have HF:=Lib.hid hf
      clear hf
      go_wp2
      go_ret
      exact ⟨ret_bool (by rw [hasS_no s hlt rfl HF.out]),(Below.refl _ _).alloc (Nat.le_refl _) _⟩
    · rw [hf] at hc
      have HF:=Lib.hid hf
      clear hf
      go_wp2
      have hk:=Hk.out
      go_roundg (gk - 1)
      case measure=>omega
      case rel=>exact ⟨k+1,by omega,by go_num,rfl,by show hasS _ _=true;rw [take_snoc s k hlt,hasS_snoc,hp.out,HF.out];rfl⟩
  · go_wp2
    go_ret
    have h:=hp.out
    rw [take_all s k hlt] at h
    exact ⟨ret_bool (by rw [h]),(Below.refl _ _).alloc (Nat.le_refl _) _⟩
end
section
open Go.RowKit
def foldS (v n:Int):Int:=if n≤1 then 0 else v % n
theorem foldS_rng (v n:Int) (h:1≤n):0≤foldS v n∧foldS v n<n:=by
 unfold foldS
 split
 · omega
 · exact ⟨Int.emod_nonneg _ (by omega),Int.emod_lt_of_pos _ (by omega)⟩
theorem tmod_nonneg_eq (v n:Int) (hn:0<n) (h:0≤v.tmod n):v.tmod n=v % n:=by
 rw [Int.tmod_eq_emod] at h ⊢
 split at h
 · simp_all
 · have h1:=Int.emod_nonneg v (show n≠0 by omega)
   have h2:=Int.emod_lt_of_pos v hn
   exfalso;omega
theorem tmod_neg_eq (v n:Int) (hn:0<n) (h:v.tmod n<0):v.tmod n+n=v % n:=by
 rw [Int.tmod_eq_emod] at h ⊢
 split at h
 · have h1:=Int.emod_nonneg v (show n≠0 by omega)
   exfalso;omega
 · rename_i h3
   rw [if_neg h3]
   omega
set_option maxHeartbeats 400000 in
theorem Fold_any (v n:Int) (w:World) (_h1 : -9223372036854775808≤v) (_h2:v≤9223372036854775807) (h3:n≤9223372036854775807) :
 Calls Tryz.prog 37 #[.int .i64 v,.int .i64 n] w fun e w'=>e=.returned (.int .i64 (foldS v n))∧w=w':=by
 go_enter Tryz.func37,Tryz.ntmps37
 go_wp2
 · go_ret
   exact ⟨ret_int (by simp [foldS];omega),rfl⟩
 · go_ret
   have hn:1<n:=by assumption
   have ht:v.tmod n<0:=by assumption
   have e:=tmod_neg_eq v n (by omega) ht
   have r:=foldS_rng v n (by omega)
   rw [foldS,if_neg (by omega)] at r
   exact ⟨ret_int (by rw [e,foldS,if_neg (by omega)];exact IntWalk.wrap64_in _ ⟨by omega,by omega⟩),rfl⟩
 · go_ret
   have hn:1<n:=by assumption
   have ht:0≤v.tmod n:=by assumption
   exact ⟨ret_int (by rw [tmod_nonneg_eq v n (by omega) ht,foldS,if_neg (by omega)]),rfl⟩
structure TapeIs (w:World) (b:Nat) (n:Nat) (p:Nat):Prop where
 blk:∃ A c t,w.heap[b]? = some (.cells #[.slice A n c,.int .i64 p] t (0,0))∧∃ ba off,(0<n→A=some ⟨ba,off,none⟩)∧ba≠b∧∀ i,i<n→∃ z:Int,w.cell? ⟨ba,off+i,none⟩=some (.int .i64 z) ∧ -9223372036854775808≤z∧z≤9223372036854775807
 small:n≤9223372036854775807
theorem TapeIs.lt {w:World} {b n p:Nat} (h:TapeIs w b n p):b<w.heap.size:=by
 obtain ⟨A,c,t,hb,_⟩:=h.blk
 rcases Nat.lt_or_ge b w.heap.size with hlt | hge
 · exact hlt
 · rw [Array.getElem?_eq_none hge] at hb;cases hb
def SomeInt (m:Int) (P:World→Prop) (e:Ending) (w':World):Prop:=∃ r:Int,0≤r∧r<m∧e=.returned (.int .i64 r)∧P w'
set_option maxHeartbeats 400000 in
theorem Next_set (b n p:Nat) (m:Int) (w:World) (h:TapeIs w b n p) (h1:1≤m) (h2:m≤1000000) (h3:p≤1000000) :
 Calls Tryz.prog 13 #[.pointer (some ⟨b,0,none⟩),.int .i64 m] w (SomeInt m fun w'=>∃ k,(w.setCell ⟨b,1,none⟩ (.int .i64 (p+1))).drewN k=w'):=by
 obtain ⟨⟨A,c,t,hb,ba,off,hA,hne,hz⟩,hs⟩:=h
 have c0:w.cell? ⟨b,0,none⟩=some (.slice A n c):=by rw [cell_of_row _ _ 0 _ _ _ hb];rfl
 have c1:w.cell? ⟨b,1,none⟩=some (.int .i64 p):=by rw [cell_of_row _ _ 1 _ _ _ hb];rfl
 have f1:w.frozen? ⟨b,1,none⟩=false:=frozen_of_row _ _ _ _ _ hb
 clear hb
 by_cases hlt:p<n
 · obtain rfl:=hA (by omega)
   obtain ⟨z,hc,z1,z2⟩:=hz p hlt
   clear hz hA
   go_enter Tryz.func13,Tryz.ntmps13
   go_wp2
   go_quiet (fail)
   go_wp2
   go_quiet (fail)
   go_wp2_with (go_at_call 37;refine (Fold_any _ _ _ (by omega) (by omega) (by omega)).mono ?_;rintro e w' ⟨rfl,rfl⟩)
   go_ret
   exact ⟨_,(foldS_rng _ _ h1).1,(foldS_rng _ _ h1).2,rfl,_,rfl⟩
 · clear hz hA
   go_enter Tryz.func13,Tryz.ntmps13
   go_wp2
   go_quiet (fail)
   go_wp2_with (go_at_call 37;refine (Fold_any _ _ _ (by omega) (by omega) (by omega)).mono ?_;rintro e w' ⟨rfl,rfl⟩)
   go_ret
   exact ⟨_,(foldS_rng _ _ h1).1,(foldS_rng _ _ h1).2,rfl,_,rfl⟩
def SomeStr (Q:ByteArray→Prop) (P:World→Prop) (e:Ending) (w':World):Prop:=∃ s:ByteArray,Q s∧e=.returned (.string s)∧P w'
end
section
open Go.RowKit
structure RowAt (w:World) (B:Nat) (A:Option Addr) (k n:Nat) (xs:List Value):Prop where
 len:xs.length=n*k
 at_:0<n→∃ ba off,A=some ⟨ba,off,none⟩∧ba<B∧∀ j u,xs[j]? = some u→w.cell? ⟨ba,off+j,none⟩=some u
theorem RowAt.keep {w w':World} {B k n:Nat} {A:Option Addr} {xs:List Value} (h:RowAt w B A k n xs) (hb:Below B w w'):RowAt w' B A k n xs :=
 ⟨h.len,fun hn=>by
  obtain ⟨ba,off,e,hB,hc⟩:=h.at_ hn
  exact ⟨ba,off,e,hB,fun j u hu=>by rw [hb.cell (p:=⟨ba,off+j,none⟩) hB];exact hc j u hu⟩⟩
theorem RowAt.of_own {w:World} {base k n:Nat} {e:TypeId} {A:Option Addr} {c:Nat} {xs:List Value} (h:w.ownsRow base e k (.slice A n c) n xs):RowAt w w.heap.size A k n xs:=by
 refine ⟨h.1,fun hn=>?_⟩
 obtain ⟨g,cap,hv,_,hlt⟩:=h.form hn
 have hA:A=some ⟨g,0,none⟩:=by injection hv
 subst hA
 refine ⟨g,0,rfl,hlt,fun j u hu=>?_⟩
 have:=h.cells (g:=g) rfl j u hu
 have hadd:(⟨g,0,none⟩:Addr).add j=⟨g,j,none⟩:=by unfold Addr.add;split <;> simp_all
 rw [hadd] at this
 rw [Nat.zero_add]
 exact this
def cellsOf {α:Type} (enc:α→List Value) (l:List α):List Value:=l.flatMap enc
theorem cellsOf_len {α:Type} (enc:α→List Value) (k:Nat) (hk:∀ x,(enc x).length=k) (l:List α):(cellsOf enc l).length=l.length*k:=by
 induction l with
 | nil=>simp [cellsOf]
 | cons x l ih=>simp only [cellsOf,List.flatMap_cons,List.length_append,List.length_cons,hk] at ih ⊢;rw [ih,Nat.add_mul];omega
theorem cellsOf_get {α:Type} (enc:α→List Value) (k:Nat) (hk:∀ x,(enc x).length=k) (l:List α) (i f:Nat) (x:α) (hx:l[i]? = some x) (hf:f<k):(cellsOf enc l)[i*k+f]? = (enc x)[f]?:=by
 induction l generalizing i with
 | nil=>simp at hx
 | cons y l ih =>
   cases i with
   | zero =>
     simp at hx
     subst hx
     simp only [cellsOf,List.flatMap_cons,Nat.zero_mul,Nat.zero_add]
     rw [List.getElem?_append_left (by rw [hk];exact hf)]
   | succ i =>
     simp at hx
     simp only [cellsOf,List.flatMap_cons]
     rw [List.getElem?_append_right (by rw [hk,Nat.add_mul];omega),hk,show (i+1)*k+f - k=i*k+f from by rw [Nat.add_mul];omega]
     exact ih i hx
theorem cellsOf_append {α:Type} (enc:α→List Value) (l m:List α):cellsOf enc (l++m)=cellsOf enc l++cellsOf enc m:=by simp [cellsOf]
theorem RowAt.cell {α:Type} {enc:α→List Value} {k:Nat} (hk:∀ x,(enc x).length=k) {w:World} {B:Nat} {A:Option Addr} {l:List α} (h:RowAt w B A k l.length (cellsOf enc l)) {i:Nat} (hi:i<l.length) :
 ∃ ba off,A=some ⟨ba,off,none⟩∧ba<B∧∀ j x,l[j]? = some x→∀ f u,(enc x)[f]? = some u→w.cell? ⟨ba,off+(j*k+f),none⟩=some u:=by
 obtain ⟨ba,off,e,hB,hc⟩:=h.at_ (by omega)
 refine ⟨ba,off,e,hB,fun j x hx f u hu=>hc _ _ ?_⟩
 have hf:f<k:=by
  have:=List.getElem?_eq_some_iff.1 hu
  obtain ⟨h1,_⟩:=this
  rw [hk] at h1;exact h1
 rw [cellsOf_get enc k hk l j f x hx hf]
 exact hu
structure At where
 name:ByteArray
 val:ByteArray
def encAt (x:At):List Value:=[.string x.name,.string x.val]
theorem encAt_len (x:At):(encAt x).length=2:=rfl
def getA (l:List At) (nm:Str):Option ByteArray:=(l.find? fun x=>L x.name == nm).map (·.val)
end
section
open Go.RowKit
structure Ls (β:Type) where
 A:Option Addr
 c:Nat
 l:List β
def Ls.v {β:Type} (y:Ls β):Value:=.slice y.A y.l.length y.c
theorem RowAt.grown {w w':World} {B k n:Nat} {A:Option Addr} {xs:List Value} {row:Option Nat} (h:RowAt w B A k n xs) (hB:B≤w.heap.size) (hg:w.grownBy w' row) (hne:0<n→∀ a,A=some a→some a.block≠row):RowAt w' B A k n xs :=
 ⟨h.len,fun hn=>by
  obtain ⟨ba,off,e,hb,hc⟩:=h.at_ hn
  refine ⟨ba,off,e,hb,fun j u hu=>?_⟩
  rw [World.cell?_of_block (w:=w) (hg.block ba (Nat.lt_of_lt_of_le hb hB) (hne hn _ e))]
  exact hc j u hu⟩
theorem RowAt.up {w:World} {B B' k n:Nat} {A:Option Addr} {xs:List Value} (h:RowAt w B A k n xs) (hB:B≤B'):RowAt w B' A k n xs :=
 ⟨h.len,fun hn=>by
  obtain ⟨ba,off,e,hb,hc⟩:=h.at_ hn
  exact ⟨ba,off,e,Nat.lt_of_lt_of_le hb hB,hc⟩⟩
section
variable {α β:Type} (k:Nat) (enc:β→List Value) (inn:α→Ls β)
def InAt (w:World) (B:Nat) (ls:List α):Prop:=∀ y∈ls,RowAt w B (inn y).A k (inn y).l.length (cellsOf enc (inn y).l)
variable {k enc inn}
end
end
section
open Go.RowKit
structure TapeB (W:World) (b n q base:Nat):Prop where
 blk:∃ A c t,W.heap[b]? = some (.cells #[.slice A n c,.int .i64 q] t (0,0))∧∃ ba off,(0<n→A=some ⟨ba,off,none⟩)∧ba≠b∧(0<n→ba<base)∧∀ i,i<n→∃ z:Int,W.cell? ⟨ba,off+i,none⟩=some (.int .i64 z) ∧ -9223372036854775808≤z∧z≤9223372036854775807
 small:n≤9223372036854775807
 lt:b<base
theorem TapeB.is {W:World} {b n q base:Nat} (h:TapeB W b n q base):TapeIs W b n q:=by
 obtain ⟨A,c,t,hh,ba,off,hA,hne,_,hz⟩:=h.blk
 exact ⟨⟨A,c,t,hh,ba,off,hA,hne,hz⟩,h.small⟩
theorem TapeB.of {W:World} {b n q:Nat} (h:TapeIs W b n q):TapeB W b n q W.heap.size:=by
 have hl:=h.lt
 obtain ⟨⟨A,c,t,hh,ba,off,hA,hne,hz⟩,hs⟩:=h
 exact ⟨⟨A,c,t,hh,ba,off,hA,hne,fun h0=>by obtain ⟨z,hc,_⟩:=hz 0 h0;exact block_lt_of_cell hc,hz⟩,hs,hl⟩
theorem TapeB.keep {W W':World} {b n q q' base:Nat} (h:TapeB W b n q base) (hb:∀ A c t,W.heap[b]? = some (.cells #[.slice A n c,.int .i64 q] t (0,0))→W'.heap[b]? = some (.cells #[.slice A n c,.int .i64 q'] t (0,0))) (ho:∀ k,k<base→k≠b→W'.heap[k]? = W.heap[k]?):TapeB W' b n q' base:=by
 obtain ⟨A,c,t,hh,ba,off,hA,hne,hlt,hz⟩:=h.blk
 refine ⟨⟨A,c,t,hb A c t hh,ba,off,hA,hne,hlt,fun i hi=>?_⟩,h.small,h.lt⟩
 obtain ⟨z,hc,z1,z2⟩:=hz i hi
 exact ⟨z,by rw [World.cell?_of_block (w:=W) (ho ba (hlt (by omega)) hne)];exact hc,z1,z2⟩
theorem blk_lt' {w:World} {g:Nat} {o:Obj} (h:w.heap[g]? = some o):g<w.heap.size:=(Array.getElem?_eq_some_iff.1 h).1
theorem grown_below {w w':World} (h:Below w.heap.size w w') (row:Option Nat):w.grownBy w' row:=⟨h.os,h.tape,h.output,h.size,fun k hk _=>h.block k hk⟩
theorem grown_tr {a b c:World} {row:Option Nat} (h:a.grownBy b row) (k:b.grownBy c row):a.grownBy c row:=h.trans k
theorem grown_far {a b c:World} {row row':Option Nat} (h:a.grownBy b row) (k:b.grownBy c row') (hr:∀ j,row'=some j→a.heap.size≤j∨row=some j):a.grownBy c row:=h.andThen k hr
theorem grown_none {a b:World} (h:a.grownBy b none):Below a.heap.size a b:=⟨h.os,h.tape,h.output,h.size,fun k hk=>h.block k hk (by simp)⟩
theorem grown_set (w:World) (B i:Nat) (u:Value):w.grownBy (w.setCell ⟨B,i,none⟩ u) (some B):=⟨rfl,rfl,rfl,by simp [World.setCell],fun k _ hk=>heap_setCell_other _ _ _ _ (fun e=>hk (by rw [e]))⟩
theorem grown_setRow (w:World) (B:Nat) (c:Array Value):w.grownBy (w.setRow B c) (some B):=⟨rfl,rfl,rfl,by simp [World.setRow],fun k _ hk=>setRow_other w B k c (fun e=>hk (by rw [e]))⟩
structure TSt (w0:World) (b n p d:Nat) (W:World):Prop where
 tape:∃ q,p≤q∧q≤p+d∧TapeB W b n q w0.heap.size
 gr:w0.grownBy W (some b)
theorem TSt.lt {w0 W:World} {b n p d:Nat} (h:TSt w0 b n p d W):b<w0.heap.size:=by obtain ⟨q,_,_,hq⟩:=h.tape;exact hq.lt
theorem TSt.start {w:World} {b n p:Nat} (h:TapeIs w b n p):TSt w b n p 0 w:=⟨⟨p,Nat.le_refl _,by omega,.of h⟩,grown_refl _ _⟩
theorem TSt.more {w0 W:World} {b n p d d':Nat} (h:TSt w0 b n p d W) (hd:d≤d'):TSt w0 b n p d' W:=by
 obtain ⟨⟨q,q1,q2,hq⟩,hg⟩:=h
 exact ⟨⟨q,q1,by omega,hq⟩,hg⟩
theorem TSt.size {w0 W:World} {b n p d:Nat} (h:TSt w0 b n p d W):w0.heap.size≤W.heap.size:=h.gr.size
theorem TSt.grown {w0 W W':World} {b n p d:Nat} {row:Option Nat} (h:TSt w0 b n p d W) (hg:W.grownBy W' row) (hr:∀ j,row=some j→w0.heap.size≤j):TSt w0 b n p d W':=by
 have hs:=h.size
 have hl:=h.lt
 obtain ⟨⟨q,q1,q2,hq⟩,h2⟩:=h
 have hk:∀ k,k<w0.heap.size→W'.heap[k]? = W.heap[k]?:=fun k hk=>hg.block k (by omega) (fun e=>by have:=hr k e.symm;omega)
 exact ⟨⟨q,q1,q2,hq.keep (fun A c t hh=>by rw [hk b hl];exact hh) (fun k hk' _=>hk k hk')⟩,grown_far h2 hg fun j e=>Or.inl (hr j e)⟩
theorem TSt.below {w0 W W':World} {b n p d:Nat} (h:TSt w0 b n p d W) (hb:Below W.heap.size W W'):TSt w0 b n p d W':=h.grown (grown_below hb none) (fun _ e=>by cases e)
theorem TSt.alloc {w0 W:World} {b n p d:Nat} (h:TSt w0 b n p d W) (o:Obj):TSt w0 b n p d (W.alloc o):=h.grown (World.grownBy_alloc W o none) (fun _ e=>by cases e)
theorem TSt.took {w0 W:World} {b n p d q:Nat} (h:w0.grownBy W (some b)) (hq:TapeB W b n q w0.heap.size) (q1:p≤q) (q2:q≤p+d) (k:Nat):TSt w0 b n p (d+1) ((W.setCell ⟨b,1,none⟩ (.int .i64 (q+1))).drewN k):=by
 have hblk:∀ j,j≠b→((W.setCell ⟨b,1,none⟩ (.int .i64 (q+1))).drewN k).heap[j]? = W.heap[j]?:=fun j hj=>heap_setCell_other _ _ _ _ hj
 refine ⟨⟨q+1,by omega,by omega,hq.keep (fun A c t hh=>?_) (fun j hj hne=>hblk j hne)⟩,grown_tr h (grown_tr (grown_set W b 1 _) (grown_drewN _ _ _))⟩
 show (W.setCell _ _).heap[b]? = _
 rw [heap_setCell_same _ _ _ _ _ _ hh];rfl
structure TNx (w0:World) (b n p d:Nat) (W W':World):Prop where
 st:TSt w0 b n p d W'
 gr:W.grownBy W' (some b)
theorem Next_t {w0 W:World} {b n p d:Nat} (m:Int) (h:TSt w0 b n p d W) (h1:1≤m) (h2:m≤1000000) (h3:p+d≤1000000) :
 Calls Tryz.prog 13 #[.pointer (some ⟨b,0,none⟩),.int .i64 m] W (SomeInt m (TNx w0 b n p (d+1) W)):=by
 obtain ⟨⟨q,q1,q2,hq⟩,hg⟩:=h
 refine (Next_set b n q m W hq.is h1 h2 (by omega)).mono fun e w' ⟨r,r0,r1,he,k,hw⟩=>⟨r,r0,r1,he,?_⟩
 subst hw
 exact ⟨TSt.took hg hq q1 q2 k,grown_tr (grown_set W b 1 _) (grown_drewN _ _ _)⟩
set_option maxHeartbeats 400000 in
theorem Next_fix0 (b n p:Nat) (m:Int) (w:World) (h:TapeIs w b n p) (h1:1≤m) (h2:m≤1000000) (h3:p≤1000000) :
 ∃ r:Int,0≤r∧r<m∧∀ W,Below w.heap.size w W→Calls Tryz.prog 13 #[.pointer (some ⟨b,0,none⟩),.int .i64 m] W fun e w'=>e=.returned (.int .i64 r)∧∃ k,(W.setCell ⟨b,1,none⟩ (.int .i64 (p+1))).drewN k=w':=by
 have hlt:=h.lt
 obtain ⟨⟨A,c,t,hb,ba,off,hA,hne,hz⟩,hs⟩:=h
 have HC:Hid (∀ W,Below w.heap.size w W→W.cell? ⟨b,0,none⟩=some (.slice A n c)∧W.cell? ⟨b,1,none⟩=some (.int .i64 p)∧W.frozen? ⟨b,1,none⟩=false):=Lib.hid fun W hW=>by
  have hb':=(hW.block b hlt).trans hb
  exact ⟨by rw [cell_of_row _ _ 0 _ _ _ hb'];rfl,by rw [cell_of_row _ _ 1 _ _ _ hb'];rfl,frozen_of_row _ _ _ _ _ hb'⟩
 clear hb
 by_cases hp:p<n
 · obtain rfl:=hA (by omega)
   obtain ⟨z,hc,z1,z2⟩:=hz p hp
   have HZ:Hid (∀ W,Below w.heap.size w W→W.cell? ⟨ba,off+p,none⟩=some (.int .i64 z)):=Lib.hid fun W hW=>by
    rw [hW.cell (p:=⟨ba,off+p,none⟩) (block_lt_of_cell hc)];exact hc
   clear hz hA hc
   refine ⟨foldS z m,(foldS_rng _ _ h1).1,(foldS_rng _ _ h1).2,fun W hW=>?_⟩
   obtain ⟨c0,c1,f1⟩:=HC.out W hW
   have c2:=HZ.out W hW
   have HW:=Lib.hid hW
   clear hW
   go_enter Tryz.func13,Tryz.ntmps13
   go_wp2
   go_quiet (fail)
   go_wp2
   go_quiet (fail)
   go_wp2_with (go_at_call 37;refine (Fold_any _ _ _ (by omega) (by omega) (by omega)).mono ?_;rintro e w' ⟨rfl,rfl⟩)
   go_ret
   exact ⟨rfl,_,rfl⟩
 · clear hz hA
   refine ⟨foldS (((p:Int)*7).tmod 11) m,(foldS_rng _ _ h1).1,(foldS_rng _ _ h1).2,fun W hW=>?_⟩
   obtain ⟨c0,c1,f1⟩:=HC.out W hW
   have HW:=Lib.hid hW
   clear hW
   go_enter Tryz.func13,Tryz.ntmps13
   go_wp2
   go_quiet (fail)
   go_wp2_with (go_at_call 37;refine (Fold_any _ _ _ (by omega) (by omega) (by omega)).mono ?_;rintro e w' ⟨rfl,rfl⟩)
   go_ret
   refine ⟨?_,_,rfl⟩
   first | rfl | (congr 2;simp;done) | (rw [Int.tmod_eq_emod_of_nonneg (by omega)])
theorem Next_fix {w0 W:World} {b n p d:Nat} (m:Int) (h:TSt w0 b n p d W) (h1:1≤m) (h2:m≤1000000) (h3:p+d≤1000000) :
 ∃ r:Int,0≤r∧r<m∧∀ W1,Below W.heap.size W W1→Calls Tryz.prog 13 #[.pointer (some ⟨b,0,none⟩),.int .i64 m] W1 fun e w'=>e=.returned (.int .i64 r)∧TNx w0 b n p (d+1) W1 w':=by
 have h':=h
 obtain ⟨⟨q,q1,q2,hq⟩,hg⟩:=h
 obtain ⟨r,r0,r1,hr⟩:=Next_fix0 b n q m W hq.is h1 h2 (by omega)
 refine ⟨r,r0,r1,fun W1 hW=>(hr W1 hW).mono fun e w' ⟨he,k,hw⟩=>⟨he,?_⟩⟩
 subst hw
 have hq1:TapeB W1 b n q w0.heap.size:=hq.keep (fun A c t hh=>by rw [hW.block b (blk_lt' hh)];exact hh) (fun k hk _=>hW.block k (Nat.lt_of_lt_of_le hk h'.size))
 exact ⟨TSt.took (h'.below hW).gr hq1 q1 q2 k,grown_tr (grown_set W1 b 1 _) (grown_drewN _ _ _)⟩
set_option maxHeartbeats 400000 in
theorem One_t {w0 W:World} {b n p d:Nat} (g off c:Nat) (ss:List ByteArray) (h:TSt w0 b n p d W) (h3:p+d≤1000000) (hg:g≠b) (h0:0<ss.length) (h1:ss.length≤1000)
 (hc:∀ i s,ss[i]? = some s→W.cell? ⟨g,off+i,none⟩=some (.string s)) :
 Calls Tryz.prog 14 #[.pointer (some ⟨b,0,none⟩),.slice (some ⟨g,off,none⟩) ss.length c] W (SomeStr (· ∈ ss) (TNx w0 b n p (d+1) W)):=by
 have HN:=Next_t (ss.length:Nat) h (by omega) (by omega) h3
 have H:=Lib.hid h
 have HC:=Lib.hid hc
 clear h hc
 have hne:((ss.length:Int) == 0)=false:=by simp;intro e;rw [e] at h0;simp at h0
 have h2:(ss.length:Int)≤1000:=by omega
 go_enter Tryz.func14,Tryz.ntmps14
 go_wp2_with fail
 refine HN.mono ?_
 rintro e w' ⟨r,r0,r1,rfl,hT⟩
 obtain ⟨j,rfl⟩:=Int.eq_ofNat_of_zero_le r0
 have hj:j<ss.length:=by omega
 have hcell:w'.cell? ⟨g,off+j,none⟩=some (.string ss[j]):=by
  have h4:=HC.out j ss[j] (List.getElem?_eq_getElem hj)
  exact hT.gr.cell h4 (fun e=>hg (Option.some.inj e))
 have HT:=Lib.hid hT
 clear hT
 generalize hs:ss[j]=s at hcell
 have HS:=Lib.hid hs
 clear hs
 go_wp2
 go_ret
 exact ⟨s,by rw [←HS.out];exact List.getElem_mem _,rfl,HT.out⟩
def strCells (m:Nat) (A:Array Value):Bool:=A.toList.all fun
 | .string s=>decide (s.size≤m)
 | _=>false
theorem strCells_list {m:Nat}:∀ {l:List Value},(l.all fun | .string s=>decide (s.size≤m) | _=>false)=true→∃ ss:List ByteArray,l=ss.map Value.string∧∀ s∈ss,s.size≤m
 | [],_=>⟨[],rfl,fun _ h=>by cases h⟩
 | v :: r,h=>by
   rw [List.all_cons,Bool.and_eq_true] at h
   obtain ⟨ss,e,hs⟩:=strCells_list h.2
   cases v with
   | string s =>
     refine ⟨s :: ss,by rw [e];rfl,fun x hx=>?_⟩
     rcases List.mem_cons.1 hx with rfl | hx
     · simpa using h.1
     · exact hs x hx
   | _=>simp at h
theorem One_b {w0 W:World} {b n p d:Nat} (m:Nat) (A:Array Value) (T:TypeId) (g k c:Nat) (h:TSt w0 b n p d W) (hA:strCells m A=true) (hk:A.size=k) (hk0:0<k) (hk1:k≤1000) (hg:g=W.heap.size) (h3:p+d≤1000000) :
 Calls Tryz.prog 14 #[.pointer (some ⟨b,0,none⟩),.slice (some ⟨g,0,none⟩) k c] (W.alloc (.cells A T)) (SomeStr (·.size≤m) (TNx w0 b n p (d+1) W)):=by
 subst hg
 obtain ⟨ss,e,hs⟩:=strCells_list hA
 have hl:ss.length=k:=by rw [←hk,←Array.length_toList,e,List.length_map]
 subst hl
 have hs0:=h.size
 have hlt:=h.lt
 refine (One_t W.heap.size 0 c ss (h.alloc (.cells A T)) h3 (by omega) hk0 hk1 (fun i s hi=>?_)).mono fun e w' ⟨s,h1,he,ht⟩=>⟨s,hs s h1,he,ht.st,grown_tr (World.grownBy_alloc W _ _) ht.gr⟩
 rw [Nat.zero_add,cell_of_row _ _ i _ _ _ (heap_alloc_new W _),←Array.getElem?_toList,e,List.getElem?_map,hi];rfl
end
section
open Go.RowKit
variable {P:Program}
theorem wp_alloc_known {o:Oper} {a:Act} {w:World} {K:Act→World→Prop} {Q:Exit→Act→World→Prop} (ty:TypeId) (ho:o.op=.alloc ty) (z:Value) (hz:(zeroValue ty).run P w=.ok z w)
 (h:K (a.put o.dst (.pointer (some ⟨w.heap.size,0,none⟩))) (w.alloc (.cells z.cells ty))):o.wp P a w K Q:=by
 unfold Oper.wp execOp
 simp only [ho,Instr.alloc,Sem.run_bind,hz,Result.andThen_ok,newVar]
 exact h
theorem wpList_alloc_known {ops:Array Oper} {rest:List Oper} {o:Oper} {a:Act} {w:World} {Q:Exit→Act→World→Prop} (hgd:o.guard=none) (ty:TypeId) (ho:o.op=.alloc ty) (z:Value) (hz:(zeroValue ty).run P w=.ok z w)
 (h:wpList P ops Q rest (a.put o.dst (.pointer (some ⟨w.heap.size,0,none⟩))) (w.alloc (.cells z.cells ty))):wpList P ops Q (o :: rest) a w :=
 wpList_plain hgd fun _ hK=>wp_alloc_known ty ho z hz (hK _ _ h)
def setAll:Array Value→Nat→List Value→Array Value
 | c,_,[]=>c
 | c,o,v :: r=>setAll (c.setIfInBounds o v) (o+1) r
theorem size_setAll:∀ (vs:List Value) (c:Array Value) (o:Nat),(setAll c o vs).size=c.size
 | [],_,_=>rfl
 | v :: r,c,o=>by rw [setAll,size_setAll r];simp
theorem setCell_last (w:World) (c:Array Value) (t:TypeId) (o:Nat) (v:Value):(w.alloc (.cells c t)).setCell ⟨w.heap.size,o,none⟩ v=w.alloc (.cells (c.setIfInBounds o v) t):=by
 rw [setCell_eq_setRow _ _ _ c t (0,0) v (heap_alloc_last w _),World.setRow_alloc_new]
theorem setCells_last (w:World) (t:TypeId):∀ (vs:List Value) (c:Array Value) (o:Nat),(w.alloc (.cells c t)).setCells w.heap.size o vs=w.alloc (.cells (setAll c o vs) t)
 | [],_,_=>rfl
 | v :: r,c,o=>by
   rw [World.setCells,setCell_last,setCells_last w t r]
   rfl
theorem there_last (w:World) (c:Array Value) (t:TypeId) (o n:Nat) (h:o+n≤c.size):(w.alloc (.cells c t)).there w.heap.size o n:=fun j hj=>by
 refine ⟨?_,frozen_of_row _ _ _ _ _ (heap_alloc_last w _)⟩
 rw [cell_of_row _ _ _ _ _ _ (heap_alloc_last w (.cells c t)),Array.getElem?_eq_getElem (by omega)]
 rfl
theorem wpList_store_last {ops:Array Oper} {rest:List Oper} {op:Oper} {a:Act} {w:World} {Q:Exit→Act→World→Prop} (hgd:op.guard=none) (ty:TypeId) (x y:Operand) (ho:op.op=.store ty x y)
 (c:Array Value) (t:TypeId) (g o:Nat) (cells:Array Value) (hg:w.heap.size=g) (hx:a.eval x=.pointer (some ⟨g,o,none⟩)) (hy:a.eval y=.agg cells)
 (hb:o+cells.size≤c.size) (hi:(P.info? ty).map (·.size)=some cells.size) (h1:cells.all (·.oneCell')=true)
 (h:wpList P ops Q rest (a.put op.dst undef) (w.alloc (.cells (setAll c o cells.toList) t))):wpList P ops Q (op :: rest) a (w.alloc (.cells c t)):=by
 subst hg
 refine wpList_store_mid hgd ty x y ho w.heap.size o cells hx hy (there_last w c t o cells.size hb) hi h1 ?_
 rw [setCells_last]
 exact h
theorem setAll_get:∀ (vs:List Value) (c:Array Value) (o j:Nat),o+vs.length≤c.size→(setAll c o vs)[j]? = if o≤j∧j<o+vs.length then vs[j - o]? else c[j]?
 | [],c,o,j,_=>by rw [setAll,if_neg (fun h=>by simp at h;omega)]
 | v :: r,c,o,j,h=>by
   rw [setAll,setAll_get r _ (o+1) j (by simp at h ⊢;omega)]
   simp only [List.length_cons] at h ⊢
   by_cases h1:o+1≤j∧j<o+1+r.length
   · rw [if_pos h1,if_pos (by omega),show j - o=(j - (o+1))+1 from by omega,List.getElem?_cons_succ]
   · rw [if_neg h1,Array.getElem?_setIfInBounds]
     by_cases h2:o=j
     · subst h2
       rw [if_pos rfl,if_pos (by omega),if_pos (by omega),Nat.sub_self];rfl
     · rw [if_neg h2,if_neg (by omega)]
theorem setAll_whole (c cells:Array Value) (h:cells.size=c.size):setAll c 0 cells.toList=cells:=by
 apply Array.ext_getElem?
 intro j
 rw [setAll_get _ _ _ _ (by simp [h])]
 by_cases hj:j<cells.size
 · rw [if_pos (by simpa using hj)];simp
 · rw [if_neg (by simp;omega),Array.getElem?_eq_none (by omega),Array.getElem?_eq_none (by omega)]
theorem wpList_store_new {ops:Array Oper} {rest:List Oper} {op:Oper} {a:Act} {w:World} {Q:Exit→Act→World→Prop} (hgd:op.guard=none) (ty:TypeId) (x y:Operand) (ho:op.op=.store ty x y)
 (c:Array Value) (t:TypeId) (g:Nat) (cells:Array Value) (hg:w.heap.size=g) (hx:a.eval x=.pointer (some ⟨g,0,none⟩)) (hy:a.eval y=.agg cells)
 (hb:cells.size=c.size) (hi:(P.info? ty).map (·.size)=some cells.size) (h1:cells.all (·.oneCell')=true)
 (h:wpList P ops Q rest (a.put op.dst undef) (w.alloc (.cells cells t))):wpList P ops Q (op :: rest) a (w.alloc (.cells c t)):=by
 refine wpList_store_last hgd ty x y ho c t g 0 cells hg hx hy (by omega) hi h1 ?_
 rw [setAll_whole c cells hb]
 exact h
theorem one4 {a b c d:Value} (ha:a.oneCell'=true) (hb:b.oneCell'=true) (hc:c.oneCell'=true) (hd:d.oneCell'=true):(#[a,b,c,d]:Array Value).all (·.oneCell')=true:=by simp [ha,hb,hc,hd]
end
section
open Go.RowKit
variable {P:Program}
noncomputable def ldG (T:TypeId) (v:Value):Sem Value:=Instr.loadAt T v
noncomputable def stG (T:TypeId) (v u:Value):Sem Unit:=Instr.storeAt T v u
theorem add_at (g off j:Nat):(⟨g,off,none⟩:Addr).add j=⟨g,off+j,none⟩:=by unfold Addr.add;split <;> simp_all
theorem ldG_row {w:World} {T:TypeId} {n g o:Nat} {l:List Value} (hA:∀ w,(isAgg T).run P w=.ok true w) (hz:∀ w,(Go.sizeOf T).run P w=.ok n w) (hl:l.length=n) (hc:∀ j u,l[j]? = some u→w.cell? ⟨g,o+j,none⟩=some u) :
 (ldG T (.pointer (some ⟨g,o,none⟩))).run P w=.ok (.agg l.toArray) w:=by
 unfold ldG
 have h:=run_loadCells_list (P:=P) w ⟨g,o,none⟩ l (fun j v hv=>by rw [add_at];exact hc j v hv)
 rw [hl] at h
 simp [Instr.loadAt,Instr.sureAddr,loadVar,hA,hz,h]
theorem ldG_at {w:World} {T:TypeId} {n g o:Nat} {cs:Array Value} {t:TypeId} {fr:Nat × Nat} (hA:∀ w,(isAgg T).run P w=.ok true w) (hz:∀ w,(Go.sizeOf T).run P w=.ok n w) (h:w.heap[g]? = some (.cells cs t fr)) (hs:o+n≤cs.size) :
 (ldG T (.pointer (some ⟨g,o,none⟩))).run P w=.ok (.agg (cs.extract o (o+n))) w:=by
 have h1:=ldG_row (P:=P) (w:=w) (T:=T) (n:=n) (g:=g) (o:=o) (l:=(cs.extract o (o+n)).toList) hA hz (by simp;omega) (fun j u hu=>by
  rw [cell_of_row _ _ _ _ _ _ h]
  rw [Array.getElem?_toList,Array.getElem?_extract] at hu
  split at hu
  · exact hu
  · cases hu)
 rw [h1]
theorem setCells_row (g:Nat) (t:TypeId) (fr:Nat × Nat):∀ (vs:List Value) (c:Array Value) (o:Nat) (w:World),vs≠[]→w.heap[g]? = some (.cells c t fr)→w.setCells g o vs=w.setRow g (setAll c o vs)
 | [],_,_,_,h,_=>absurd rfl h
 | [v],c,o,w,_,h=>by
   rw [World.setCells,World.setCells,setCell_eq_setRow _ _ _ _ _ _ _ h];rfl
 | v :: u :: r,c,o,w,_,h=>by
   rw [World.setCells,setCell_eq_setRow _ _ _ _ _ _ _ h,setCells_row g t fr (u :: r) (c.setIfInBounds o v) (o+1) _ (by simp) (setRow_heap _ _ _ _ _ _ h),setRow_setRow]
   rfl
theorem stG_at {w:World} {T:TypeId} {g o:Nat} {cs vs:Array Value} {t:TypeId} (h:w.heap[g]? = some (.cells cs t (0,0))) (hs:o+vs.size≤cs.size) (h0:0<vs.size) (hi:(P.info? T).map (·.size)=some vs.size) (h1:vs.all (·.oneCell')=true) :
 (stG T (.pointer (some ⟨g,o,none⟩)) (.agg vs)).run P w=.ok () (w.setRow g (setAll cs o vs.toList)):=by
 unfold stG
 have ht:w.there g o vs.size:=fun j hj=>⟨by rw [cell_of_row _ _ _ _ _ _ h,Array.getElem?_eq_getElem (by omega)];rfl,frozen_of_row _ _ _ _ _ h⟩
 rw [run_storeAt_mid w g o T vs ht hi h1,setCells_row g t (0,0) vs.toList cs o w (by intro e;rw [Array.toList_eq_nil_iff] at e;rw [e] at h0;simp at h0) h]
noncomputable def bsG (t:TypeId) (n:Nat) (parts:Array (Nat × Value)):Sem Value:=Instr.buildSlice t n parts
theorem foldl_setAllG:∀ (l:List Value) (k:Nat) (c:Array Value),(l.zipIdx k).foldl (fun acc x=>acc.setIfInBounds (0+x.2) x.1) c=setAll c k l
 | [],_,_=>rfl
 | v :: r,k,c=>by
   rw [List.zipIdx_cons,List.foldl_cons,setAll]
   show List.foldl _ (c.setIfInBounds (0+k) v) _=_
   rw [Nat.zero_add]
   exact foldl_setAllG r (k+1) _
theorem fillG (cs cells:Array Value) (n:Nat) (h1:cs.size=n) (h2:cells.size=n):Instr.fill (fun i=>some (i*n,n)) cells [(0,.agg cs)]=some cs:=by
 have e:(Value.agg cs).cells=cs:=rfl
 simp only [Instr.fill,e,Nat.zero_mul]
 rw [if_neg (by simp [h1,h2])]
 congr 1
 rw [←Array.foldl_toList,Array.toList_zipIdx]
 have:=foldl_setAllG cs.toList 0 cells
 rw [setAll_whole cells cs (by rw [h1,h2])] at this
 exact this
theorem bsG_at {t e:TypeId} {z:Value} {k b:Nat} (hu:P.underlying t=some (.slice e)) (hi:(P.info? e).map (fun i=>(i.zero,i.size,i.bytes))=some (some z,k,b)) (hk:0<k) (hk2:k≤1000) (cs:Array Value) (hs:cs.size=k) (w:World) :
 (bsG t 1 #[(0,.agg cs)]).run P w=.ok (.slice (some ⟨w.heap.size,0,none⟩) 1 1) (w.alloc (.cells cs e)):=by
 obtain ⟨i0,hi0,hz0,hz1,hz2⟩:=info_parts hi
 unfold bsG
 refine run_buildSlice w _ _ 1 _ cs i0 z hu hi0 hz0 (by rw [hz1];omega) (by rw [hz1];omega) ?_
 rw [hz1]
 exact fillG cs _ k hs (by simp)
noncomputable def apG (ts:Array TypeId) (ty:TypeId) (args:Array Value):Sem Value:=Builtin.append_ ts ty args
theorem ap_g (ts:Array TypeId) (ty:TypeId) (args:Array Value):Builtin.append_ ts ty args=apG ts ty args:=rfl
attribute [irreducible] ldG stG bsG apG
theorem post_cr2 {P:Program} {fn:Func} {R:Ending→World→Prop} {a:Act} {W:World} {g:Nat} {p q:Tmp} {ty t:TypeId} {cs:Array Value} {u:Value} {fr:Nat × Nat} {d:TypeDesc} (h:fn.results=#[.cell p ty,.tmp q]) (hp:a.tmps.getD p undef=.pointer (some ⟨g,0,none⟩)) (hq:a.tmps.getD q undef=u)
 (hg:W.heap[g]? = some (.cells cs t fr)) (hu:P.underlying ty=some d) (hd:(match d with | .struct _ | .array _ _=>true | _=>false)=true) (hi:(P.info? ty).map (·.size)=some cs.size) (hdef:a.defers=[])
 (hR:R (.returned (.tuple #[.agg cs,u])) W):bodyPost P fn R .ret a W:=by
 have hp':a.tmps[p]?.getD undef=.pointer (some ⟨g,0,none⟩):=by simpa using hp
 have hq':a.tmps[q]?.getD undef=u:=by simpa using hq
 refine bodyPost_ret (v:=.tuple #[.agg cs,u]) ?_ hdef hR
 simp [results,h,hp',hq',asAddr,run_loadVar_row W g t ty cs fr d hg hu hd hi]
theorem post_cr1 {P:Program} {fn:Func} {R:Ending→World→Prop} {a:Act} {W:World} {g:Nat} {p:Tmp} {ty t:TypeId} {cs:Array Value} {fr:Nat × Nat} {d:TypeDesc} (h:fn.results=#[.cell p ty]) (hp:a.tmps.getD p undef=.pointer (some ⟨g,0,none⟩))
 (hg:W.heap[g]? = some (.cells cs t fr)) (hu:P.underlying ty=some d) (hd:(match d with | .struct _ | .array _ _=>true | _=>false)=true) (hi:(P.info? ty).map (·.size)=some cs.size) (hdef:a.defers=[])
 (hR:R (.returned (.agg cs)) W):bodyPost P fn R .ret a W :=
 bodyPost_ret (results_cell_row h _ _ g t cs fr d hp hg hu hd hi) hdef hR
structure RowN (w:World) (A:Option Addr) (k n:Nat) (xs:List Value):Prop where
 row:RowAt w w.heap.size A k n xs
 pl:∀ a,A=some a→a=⟨a.block,a.off,none⟩∧a.block<w.heap.size
theorem RowN.keep {w w':World} {A:Option Addr} {k n:Nat} {xs:List Value} (h:RowN w A k n xs) (hb:Below w.heap.size w w'):RowN w' A k n xs :=
 ⟨(h.row.keep hb).up hb.size,fun a e=>⟨(h.pl a e).1,Nat.lt_of_lt_of_le (h.pl a e).2 hb.size⟩⟩
theorem RowN.grown {w w':World} {A:Option Addr} {k n:Nat} {xs:List Value} {row:Option Nat} (h:RowN w A k n xs) (hg:w.grownBy w' row) (hr:∀ a,A=some a→some a.block≠row):RowN w' A k n xs :=
 ⟨(h.row.grown (Nat.le_refl _) hg (fun _ a e=>hr a e)).up hg.size,fun a e=>⟨(h.pl a e).1,Nat.lt_of_lt_of_le (h.pl a e).2 hg.size⟩⟩
theorem RowN.ownf {w w':World} {A:Option Addr} {k n:Nat} {xs:List Value} {row:Option Nat} (h:RowN w A k n xs) (hg:w.grownBy w' row) (hr:∀ r,row=some r→∃ o:Obj,w.heap[r]? = some o∧o.isCells=false):RowN w' A k n xs :=
 ⟨⟨h.row.len,fun hn=>by
   obtain ⟨ba,off,e,hb,hc⟩:=h.row.at_ hn
   exact ⟨ba,off,e,Nat.lt_of_lt_of_le hb hg.size,fun j u hu=>cell_kept (hc j u hu) hg hr⟩⟩,fun a e=>⟨(h.pl a e).1,Nat.lt_of_lt_of_le (h.pl a e).2 hg.size⟩⟩
theorem own_off {W W':World} {base kk n:Nat} {T:TypeId} {v:Value} {xs:List Value} {row:Option Nat} (h:W.ownsRow base T kk v n xs) (hg:W.grownBy W' row) (ha:∀ g,row=some g→v.ownBlock≠some g):W'.ownsRow base T kk v n xs :=
 h.kept hg (by
  cases hv:v.ownBlock with
  | none=>exact Or.inl rfl
  | some g=>right;intro e;exact ha g e.symm hv)
theorem own_cells {W:World} {base kk n:Nat} {T:TypeId} {v:Value} {xs:List Value} (h:W.ownsRow base T kk v n xs) {g:Nat} (hv:v.ownBlock=some g):∃ o:Obj,W.heap[g]? = some o∧o.isCells=true:=by
 rcases h.2 with ⟨rfl,_⟩ | ⟨g',cap,cur,rfl,_,hg,_⟩
 · cases hv
 · obtain rfl:=Option.some.inj hv
   exact ⟨_,hg,rfl⟩
theorem RowN.nil {w:World} {k:Nat}:RowN w none k 0 []:=⟨⟨by simp,fun h=>absurd h (Nat.lt_irrefl 0)⟩,fun a e=>by cases e⟩
def From (B:Nat) (A:Option Addr):Prop:=∀ a,A=some a→B≤a.block
theorem RowN.of_own {w:World} {base k n:Nat} {e:TypeId} {A:Option Addr} {c:Nat} {xs:List Value} (h:w.ownsRow base e k (.slice A n c) n xs):RowN w A k n xs∧From base A:=by
 refine ⟨⟨RowAt.of_own h,fun a ea=>?_⟩,fun a ea=>?_⟩
 · subst ea
   rcases h.2 with ⟨h1,_⟩ | ⟨g,cap,cur,h1,_,h3,_⟩
   · cases h1
   · injection h1 with h1
     obtain rfl:=Option.some.inj h1
     exact ⟨rfl,(Array.getElem?_eq_some_iff.1 h3).1⟩
 · exact (h.lt a.block (by rw [ea];rfl)).1
structure LsN {β:Type} (k:Nat) (enc:β→List Value) (w:World) (y:Ls β):Prop where
 row:RowN w y.A k y.l.length (cellsOf enc y.l)
 cap:y.l.length≤y.c
 big:y.c≤maxLen
 nil:y.A=none→y.c=0
theorem LsN.keep {β:Type} {k:Nat} {enc:β→List Value} {w w':World} {y:Ls β} (h:LsN k enc w y) (hb:Below w.heap.size w w'):LsN k enc w' y:=⟨h.row.keep hb,h.cap,h.big,h.nil⟩
theorem LsN.grown {β:Type} {k:Nat} {enc:β→List Value} {w w':World} {y:Ls β} {row:Option Nat} (h:LsN k enc w y) (hg:w.grownBy w' row) (hr:∀ a,y.A=some a→some a.block≠row):LsN k enc w' y:=⟨h.row.grown hg hr,h.cap,h.big,h.nil⟩
theorem LsN.of_own {β:Type} {k:Nat} {enc:β→List Value} {w:World} {base:Nat} {T:TypeId} {A:Option Addr} {c:Nat} {l:List β} (h:w.ownsRow base T k (.slice A l.length c) l.length (cellsOf enc l)):LsN k enc w ⟨A,c,l⟩∧From base A:=by
 refine ⟨⟨(RowN.of_own h).1,?_,?_,?_⟩,(RowN.of_own h).2⟩
 · rcases h.2 with ⟨_,h2⟩ | ⟨g,cap,cur,h1,_,_,h4,_⟩
   · show l.length≤c;omega
   · injection h1 with _ _ h1;show l.length≤c;omega
 · rcases h.2 with ⟨h1,_⟩ | ⟨g,cap,cur,h1,_,_,h4,h5,_⟩
   · injection h1 with _ _ h1;show c≤maxLen;unfold maxLen;omega
   · injection h1 with _ _ h1;show c≤maxLen;omega
 · intro e
   rcases h.2 with ⟨h1,_⟩ | ⟨g,cap,cur,h1,_⟩
   · injection h1
   · injection h1 with h1;rw [show A=none from e] at h1;cases h1
theorem LsN.empty {β:Type} {k:Nat} {enc:β→List Value} {w:World}:LsN k enc w ⟨none,0,[]⟩:=⟨RowN.nil,Nat.le_refl _,by unfold maxLen;show (0:Nat)≤_;omega,fun _=>rfl⟩
theorem RowAt.tail {w:World} {B k n ba off:Nat} {xs:List Value} (h:RowAt w B (some ⟨ba,off,none⟩) k n xs) {m:Nat} (hm:m≤n):RowAt w B (some ⟨ba,off+m*k,none⟩) k (n - m) (xs.drop (m*k)):=by
 refine ⟨by rw [List.length_drop,h.len,Nat.sub_mul],fun hn=>?_⟩
 obtain ⟨b2,o2,e,hB,hc⟩:=h.at_ (by omega)
 injection e with e
 injection e with e1 e2
 subst e1 e2
 refine ⟨ba,off+m*k,rfl,hB,fun j u hu=>?_⟩
 rw [List.getElem?_drop] at hu
 rw [Nat.add_assoc]
 exact hc _ u hu
theorem cells_drop {β:Type} (enc:β→List Value) (k:Nat) (hk:∀ x,(enc x).length=k):∀ (l:List β) (m:Nat),(cellsOf enc l).drop (m*k)=cellsOf enc (l.drop m)
 | [],m=>by simp [cellsOf]
 | x :: l,0=>by simp
 | x :: l,m+1=>by
   have e:cellsOf enc (x :: l)=enc x++cellsOf enc l:=by simp [cellsOf]
   rw [e,List.drop_succ_cons,←cells_drop enc k hk l m,List.drop_append,hk,List.drop_of_length_le (by rw [hk,Nat.add_mul];omega),show (m+1)*k - k=m*k from by rw [Nat.add_mul];omega]
   rfl
end
section
open Go.RowKit
theorem below_alloc (W:World) (o:Obj):Below W.heap.size W (W.alloc o):=(Below.refl _ _).alloc (Nat.le_refl _) _
theorem pre1 (c b:UInt8) (l:Str):[c].isPrefixOf (b :: l)=(b == c):=by
 simp only [List.isPrefixOf,Bool.and_true]
 rw [Bool.eq_iff_iff];simp;exact eq_comm
theorem index1_cons (c b:UInt8) (l:Str):Lib.index (b :: l) [c]=if b == c then 0 else if Lib.index l [c] == -1 then -1 else Lib.index l [c]+1:=by
 rw [Lib.index,pre1]
theorem alloc3 (w:World) (o1 o2 o3:Obj):(((w.alloc o1).alloc o2).alloc o3).heap.size=w.heap.size+3∧(((w.alloc o1).alloc o2).alloc o3).heap[w.heap.size]? = some o1 ∧
 (((w.alloc o1).alloc o2).alloc o3).heap[w.heap.size+1]? = some o2∧(((w.alloc o1).alloc o2).alloc o3).heap[w.heap.size+2]? = some o3∧Below w.heap.size w (((w.alloc o1).alloc o2).alloc o3):=by
 have hn:∀ (W:World) (o:Obj) (k:Nat),k=W.heap.size→(W.alloc o).heap[k]? = some o:=fun W o k e=>by rw [e];exact heap_alloc_last W o
 have hs:∀ (W:World) (o:Obj),(W.alloc o).heap.size=W.heap.size+1:=fun W o=>by simp
 have ho:∀ (W:World) (o:Obj) (k:Nat),k<W.heap.size→(W.alloc o).heap[k]? = W.heap[k]?:=fun W o k h=>Below.heap_alloc W o k h
 refine ⟨by simp only [hs],?_,?_,hn _ _ _ (by simp only [hs]),(((Below.refl _ _).alloc (Nat.le_refl _) _).alloc (by simp only [hs];omega) _).alloc (by simp only [hs];omega) _⟩
 · rw [ho _ _ _ (by simp only [hs];omega),ho _ _ _ (by simp only [hs];omega)];exact hn _ _ _ rfl
 · rw [ho _ _ _ (by simp only [hs];omega)];exact hn _ _ _ (by simp only [hs])
theorem RowAt.more {w:World} {B B' k n:Nat} {A:Option Addr} {xs:List Value} (h:RowAt w B A k n xs) (hB:B≤B'):RowAt w B' A k n xs :=
 ⟨h.len,fun hn=>by
  obtain ⟨ba,off,e,h1,hc⟩:=h.at_ hn
  exact ⟨ba,off,e,Nat.lt_of_lt_of_le h1 hB,hc⟩⟩
theorem own_slice {W:World} {b:Nat} {e:TypeId} {sz:Nat} {v:Value} {n:Nat} {xs:List Value} (h:W.ownsRow b e sz v n xs):∃ A c,v=.slice A n c:=by
 rcases h.2 with ⟨h1,h2⟩ | ⟨g',cap,cur,h1,_⟩
 · exact ⟨_,_,by rw [h2];exact h1⟩
 · exact ⟨_,_,h1⟩
end
section
def idxA {α:Type} (q:α→Bool) (l:List α):Int:=match l.findIdx? q with
 | some k=>k
 | none => -1
theorem idxA_hit {α:Type} {q:α→Bool} {l:List α} {k:Nat} (hno:∀ j (h:j<l.length),j<k→q l[j]=false) (hk:k<l.length) (h:q l[k]=true):idxA q l=k:=by
 unfold idxA
 have:l.findIdx? q=some k:=by
  rw [List.findIdx?_eq_some_iff_getElem]
  exact ⟨hk,h,fun j hj=>by simpa using hno j (by omega) hj⟩
 rw [this]
theorem idxA_miss {α:Type} {q:α→Bool} {l:List α} (hno:∀ j (h:j<l.length),q l[j]=false):idxA q l = -1:=by
 unfold idxA
 have:l.findIdx? q=none:=by
  rw [List.findIdx?_eq_none_iff]
  intro t ht
  obtain ⟨j,hj,rfl⟩:=List.getElem_of_mem ht
  exact hno j hj
 rw [this]
end
section
open Go.RowKit
variable {P:Program} {w:World}
theorem run_append_owned_empty (base:Nat) (t ty e:TypeId) (i:TypeInfo) (size:Nat) (ht:P.underlying t=some (.slice e)) (hi:P.info? e=some i)
 (v:Value) (n:Nat) (xs:List Value) (hown:w.ownsRow base e size v n xs) (A:Option Addr) (c:Nat) :
 (Builtin.append_ #[t,t] ty #[v,.slice A 0 c]).run P w=.ok v w:=by
 cases A with
 | none =>
   rcases hown.2 with ⟨rfl,rfl⟩ | ⟨g,cap,cur,rfl,_,_,hnc,_⟩
   · simp [Builtin.append_,run_underlying ht,sizeOf,typeInfo,hi,Builtin.lenOf,Builtin.firstCells]
   · simp [Builtin.append_,run_underlying ht,sizeOf,typeInfo,hi,Builtin.lenOf,Builtin.firstCells,hnc,storeCells]
 | some a =>
   rcases hown.2 with ⟨rfl,rfl⟩ | ⟨g,cap,cur,rfl,_,_,hnc,_⟩
   · simp [Builtin.append_,run_underlying ht,sizeOf,typeInfo,hi,Builtin.lenOf,Builtin.firstCells,loadCells,loadCellsFrom]
   · simp [Builtin.append_,run_underlying ht,sizeOf,typeInfo,hi,Builtin.lenOf,Builtin.firstCells,hnc,storeCells,loadCells,loadCellsFrom]
theorem add_plain' (g off j:Nat):(⟨g,off,none⟩:Addr).add j=⟨g,off+j,none⟩:=by unfold Addr.add;split <;> simp_all
theorem wp_append_row {o:Oper} {a:Act} {K:Act→World→Prop} {Q:Exit→Act→World→Prop} (s x:Operand) (t:TypeId)
 (ho:o.op=.call { callee:=.builtin .append,args:=#[s,x],argTypes:=#[t,t] })
 (base:Nat) (e:TypeId) (i:TypeInfo) (z:Value) (size bytes:Nat) (ht:P.underlying t=some (.slice e)) (hi:P.info? e=some i) (hz:i.zero=some z)
 (hsize:i.size=size) (hby:i.bytes=bytes) (hzs:z.cells.size=size) (hsz:0<size)
 (v:Value) (n:Nat) (xs:List Value) (hs:a.eval s=v) (hown:w.ownsRow base e size v n xs)
 (A:Option Addr) (m c B:Nat) (news:List Value) (hx:a.eval x=.slice A m c) (hrow:RowAt w B A size m news) (h1:∀ u∈news,u.oneCell'=true)
 (h63:n+m≤maxLen) (hbytes:(n+m)*bytes≤140737488355328) (hbase:base≤w.heap.size)
 (h:∀ v' w',w'.ownsRow base e size v' (n+m) (xs++news)→w.grownBy w' v.ownBlock→(v'.ownBlock=v.ownBlock∨v'.ownBlock=some w.heap.size)→(0<m→v'≠.slice none 0 0)→K (a.put o.dst v') w'):o.wp P a w K Q:=by
 rcases Nat.eq_zero_or_pos m with rfl | hm
 · have hn:news=[]:=by have:=hrow.len;simpa using this
   subst hn
   have hrun:=run_append_owned_empty (P:=P) (w:=w) base t o.type e i size ht hi v n xs hown A c
   unfold Oper.wp
   simp only [execOp,ho,resolve,invoke,builtin]
   simp [hs,hx,hrun,Result.andThen]
   exact h v w (by simpa using hown) ⟨rfl,rfl,rfl,Nat.le_refl _,fun _ _ _=>rfl⟩ (Or.inl rfl) (fun h=>absurd h (by omega))
 · obtain ⟨ba,off,rfl,hB,hc⟩:=hrow.at_ hm
   refine wp_append_lies w s x t ho base e i z size bytes ht hi hz hsize hby hzs hsz v n xs hs hown ⟨ba,off,none⟩ m c news hx hrow.len (fun j u hu=>by rw [add_plain'];exact hc j u hu) h1 hm h63 hbytes hbase w.heap.size rfl fun g cap w' h2 h3 h4 h5=>?_
   refine h _ w' h2 h3 ?_ (fun _ e=>by cases e)
   rcases h4 with h4 | h4
   · exact Or.inl h4.symm
   · exact Or.inr (by rw [h4];rfl)
theorem wpList_append_row {ops:Array Oper} {rest:List Oper} {o:Oper} {a:Act} {Q:Exit→Act→World→Prop} (hgd:o.guard=none) (s x:Operand) (t:TypeId)
 (ho:o.op=.call { callee:=.builtin .append,args:=#[s,x],argTypes:=#[t,t] })
 (base:Nat) (e:TypeId) (i:TypeInfo) (z:Value) (size bytes:Nat) (ht:P.underlying t=some (.slice e)) (hi:P.info? e=some i) (hz:i.zero=some z)
 (hsize:i.size=size) (hby:i.bytes=bytes) (hzs:z.cells.size=size) (hsz:0<size)
 (v:Value) (n:Nat) (xs:List Value) (hs:a.eval s=v) (hown:w.ownsRow base e size v n xs)
 (A:Option Addr) (m c B:Nat) (news:List Value) (hx:a.eval x=.slice A m c) (hrow:RowAt w B A size m news) (h1:∀ u∈news,u.oneCell'=true)
 (h63:n+m≤maxLen) (hbytes:(n+m)*bytes≤140737488355328) (hbase:base≤w.heap.size)
 (h:∀ v' w',w'.ownsRow base e size v' (n+m) (xs++news)→w.grownBy w' v.ownBlock→(v'.ownBlock=v.ownBlock∨v'.ownBlock=some w.heap.size)→(0<m→v'≠.slice none 0 0)→wpList P ops Q rest (a.put o.dst v') w'):wpList P ops Q (o :: rest) a w :=
 wpList_plain hgd fun _ hK=>wp_append_row s x t ho base e i z size bytes ht hi hz hsize hby hzs hsz v n xs hs hown A m c B news hx hrow h1 h63 hbytes hbase fun v' w' h2 h3 h4 h5=>hK _ _ (h v' w' h2 h3 h4 h5)
end
section
open Go.RowKit
theorem HasPrefix_any (s p:ByteArray) (w:World) :
 Calls Tryz.prog 102 #[.string s,.string p] w fun e w'=>e=.returned (.bool (Lib.hasPrefix (L s) (L p)))∧w=w' :=
 (Tryz.strings_HasPrefix s p w).mono fun _e _w' ⟨h1,h2⟩=>⟨h1,h2.symm⟩
end
section
open Go.RowKit
theorem index1 (c:UInt8) (s:Str):(Lib.index s [c] = -1∧c ∉ s)∨∃ (a r:Str),s=a++c :: r∧c ∉ a∧Lib.index s [c]=a.length:=by
 induction s with
 | nil=>left;exact ⟨rfl,by simp⟩
 | cons b l ih =>
   have e:Lib.index (b :: l) [c]=if b == c then 0 else if Lib.index l [c] == -1 then -1 else Lib.index l [c]+1:=by
    rw [Lib.index]
    have:[c].isPrefixOf (b :: l)=(b == c):=by
     simp only [List.isPrefixOf,Bool.and_true];rw [Bool.eq_iff_iff];simp;exact eq_comm
    rw [this]
   rw [e]
   by_cases hb:b=c
   · subst hb
     right;exact ⟨[],l,rfl,by simp,by simp⟩
   · have hbc:(b == c)=false:=by simpa using hb
     rw [hbc]
     rcases ih with ⟨h1,h2⟩ | ⟨a,r,h1,h2,h3⟩
     · left;rw [h1];exact ⟨by simp,by simp [h2];exact fun e=>hb e.symm⟩
     · right
       refine ⟨b :: a,r,by rw [h1];rfl,by simp [h2];exact fun e=>hb e.symm,?_⟩
       have:(Lib.index l [c] == -1)=false:=by rw [h3];simp
       rw [this,h3];simp
theorem flat_no (c:UInt8) (new s:Str) (h:c ∉ s):(s.flatMap fun b=>if b=c then new else [b])=s:=by
 induction s with
 | nil=>rfl
 | cons b l ih =>
   rw [List.flatMap_cons,ih (fun h'=>h (by simp [h'])),if_neg (fun e=>h (by simp [e]))];rfl
theorem replaceK1 (c:UInt8) (new:Str):∀ (k:Nat) (s:Str),Lib.count s [c]≤k→Lib.replaceK [c] new k s=s.flatMap fun b=>if b=c then new else [b]:=by
 intro k
 induction k with
 | zero =>
   intro s h
   rcases index1 c s with ⟨_,h2⟩ | ⟨a,r,h1,_,h3⟩
   · rw [flat_no c new s h2];rfl
   · rw [Lib.count_hit (by simp) h3] at h;omega
 | succ k ih =>
   intro s h
   rcases index1 c s with ⟨h1,h2⟩ | ⟨a,r,h1,h2,h3⟩
   · rw [flat_no c new s h2,Lib.replaceK,h1];rfl
   · have hd:s.drop (a.length+1)=r:=by rw [h1];simp
     rw [Lib.count_hit (by simp) h3] at h
     rw [Lib.replaceK_hit _ _ _ _ _ h3]
     simp only [List.length_singleton] at h ⊢
     rw [hd] at h ⊢
     rw [ih r (by omega),h1]
     rw [List.flatMap_append,List.flatMap_cons,if_pos rfl,flat_no c new a h2]
     simp
theorem replaceAll1 (s:Str) (c:UInt8) (new:Str) (h:new≠[c]):Lib.replaceAll s [c] new=s.flatMap fun b=>if b=c then new else [b]:=by
 unfold Lib.replaceAll Lib.replace
 have hn:([c] == new)=false:=by
  rw [beq_eq_false_iff_ne];exact fun e=>h e.symm
 rw [hn]
 exact replaceK1 c new _ s (by unfold Lib.replaceNum;rw [if_pos (Or.inl (by omega))];exact Nat.le_refl _)
theorem flat_len2 (c:UInt8) (d:Str) (hd:d.length≤2) (s:Str):(s.flatMap fun b=>if b=c then d else [b]).length≤2*s.length:=by
 induction s with
 | nil=>simp
 | cons b s ih =>
   rw [List.flatMap_cons,List.length_append,List.length_cons]
   split
   · omega
   · rw [List.length_singleton];omega
end
end Go.Proofs.YtobcmlmbblgcdaaGreatDoor

/-
  Contracts of package name: common, Valid, Key.
  Directories of files, in plain words: which names there are, what is wrong, which files count, what has changed; no program in sight.
  Devices, the fronts of rules, their keys and which rules are candidates, in plain words; no program in sight.
  Trees of devices as data: who is found, the chain of ancestors, the origin; no program in sight.
  Drafts as data: properties set, texts put into lists and taken out, assignments; no program in sight.
  Directories of files as they lie in memory: a row of slices, each slice a row of files.
  A list of lists, each in a row of its own: one more row appended; read as directories.
  Contracts of the reference's layers 1 and 3: in, Printable, Text, Valid, Key, Number, Get.
  Contracts of slices.Grow at nil and of slices.Concat, over lists of attributes.
  Maps from names to texts, as data: built one entry after the other; no program in sight.
  Assignments as the program makes them, on data; no program in sight.
  Contracts of the reference's find and put.
  Contracts of both sides' Get: the value of an attribute.
  Where a text is put into a list that ascends; no program in sight.
  Rows of numbers: contracts of SameInts and of compile's merged.
-/
import Derived.Test.YtobcmlmbblgcdaaGreatDoorG00
import Derived.Lib.Case
import Derived.Test.YtobcmlmbblgcdaaGreatDoorShelf
import Derived.Test.YtobcmlmbblgcdaaGreatDoorG04
import Derived.Test.YtobcmlmbblgcdaaGreatDoorG01
import Derived.Test.YtobcmlmbblgcdaaGreatDoorNst
import Derived.Lib.IndexLaws
import Derived.Lib.AppendZerosOnto
import Derived.Maps.Views
import Derived.Maps.Own
import Derived.Maps.OwnSet
import Derived.Maps.StringElems
import Derived.Lib.Split
import Derived.Lib.Join
import Derived.Lib.FieldsP
import Derived.Lib.AtoiAll
import Derived.Shelf.Spec.SearchS
import Derived.Test.YtobcmlmbblgcdaaGreatDoorG03
namespace Go.Proofs.YtobcmlmbblgcdaaGreatDoor
set_option maxRecDepth 100000
section
open Go.RowKit
theorem build_none (w:World):(Instr.build 259 #[]).run Tryz.prog w=.ok (.agg (setA noneS)) w:=run_build w 259 #[] (setA noneS) (by kernel_rfl)
def upperL:Str:=[65,66,67,68,69,70,71,72,73,74,75,76,77,78,79,80,81,82,83,84,85,86,87,88,89,90]
def lowerL:Str:=[97,98,99,100,101,102,103,104,105,106,107,108,109,110,111,112,113,114,115,116,117,118,119,120,121,122]
def digitL:Str:=[48,49,50,51,52,53,54,55,56,57]
def punctL:Str:=[95,46,58,43,45]
def commonS:Nat→Bool:=addS (addS (addS (addS noneS upperL) lowerL) digitL) punctL
def validS (l:Str):Bool := !l.isEmpty && decide (l.length≤32) && !(l == [46] || l == [46,46]) && hasS (addS commonS [33]) l
def keyS (l:Str):Bool := !l.isEmpty && decide (l.length≤32) && hasS (addS noneS upperL) (l.take 1) && hasS (addS (addS (addS noneS upperL) digitL) [95]) l
theorem upper_ascii (j:Nat) (b:UInt8) (h:upperL[j]? = some b):b.toNat<128:=by
 have hm:b∈upperL:=List.mem_of_getElem? h
 revert b
 intro b _ hm
 simp only [upperL,List.mem_cons,List.not_mem_nil,or_false] at hm
 rcases hm with h | h | h | h | h | h | h | h | h | h | h | h | h | h | h | h | h | h | h | h | h | h | h | h | h | h <;> subst h <;> decide
theorem commonS_eq:addS (addS (addS (addS noneS (L ⟨#[65,66,67,68,69,70,71,72,73,74,75,76,77,78,79,80,81,82,83,84,85,86,87,88,89,90]⟩)) (L ⟨(Lib.toLowerA [65,66,67,68,69,70,71,72,73,74,75,76,77,78,79,80,81,82,83,84,85,86,87,88,89,90]).toArray⟩)) (L ⟨#[48,49,50,51,52,53,54,55,56,57]⟩)) (L ⟨#[95,46,58,43,45]⟩)=commonS:=by
 have e:Lib.toLowerA [65,66,67,68,69,70,71,72,73,74,75,76,77,78,79,80,81,82,83,84,85,86,87,88,89,90]=lowerL:=by decide
 rw [e]
 rfl
set_option maxHeartbeats 400000 in
theorem common_any (w:World) :
 Calls Tryz.prog 220 #[] w fun e w'=>e=.returned (.agg (setA commonS))∧Below w.heap.size w w':=by
 have hz:=(zero_of_info set_info).1
 have hb:=build_none
 have Hi:=Lib.hid (zero_of_info set_info).2
 go_enter Tryz.func220,Tryz.ntmps220
 have hn:=heap_alloc_new w (.cells (setA noneS) 259)
 go_wp2_with fail
 refine (plus_any _ _ _ (by decide)).mono ?_
 rintro e w1 ⟨rfl,h1⟩
 go_wp2_with fail
 refine (Tryz.strings_ToLower_ascii _ _ (by decide) upper_ascii).mono ?_
 rintro e w2 ⟨rfl,h2⟩
 go_wp2_with fail
 refine (plus_any _ _ _ (by decide)).mono ?_
 rintro e w3 ⟨rfl,h3⟩
 go_wp2_with fail
 refine (plus_any _ _ _ (by decide)).mono ?_
 rintro e w4 ⟨rfl,h4⟩
 go_wp2_with fail
 refine (plus_any _ _ _ (by decide)).mono ?_
 rintro e w5 ⟨rfl,h5⟩
 rw [commonS_eq]
 have q1:Below (w.heap.size+1) (w.alloc (.cells (setA noneS) 259)) w5:=by
  have s1:=h1.size
  have s2:=h2.size
  have s3:=h3.size
  have s4:=h4.size
  simp only [World.size_alloc] at s1 h1
  exact (((h1.trans (h2.mono s1)).trans (h3.mono (by omega))).trans (h4.mono (by omega))).trans (h5.mono (by omega))
 have q0:Below w.heap.size w w5:=((Below.refl w.heap.size w).alloc (Nat.le_refl _) _).trans (q1.mono (by omega))
 have H2:=Lib.hid ((q1.block w.heap.size (by omega)).trans hn)
 have H3:=Lib.hid (size_setA commonS)
 have H4:=Lib.hid (setA_one commonS)
 have H5:=Lib.hid (size_setA noneS)
 have Q0:=Lib.hid q0
 clear q0 q1 hn h1 h2 h3 h4 h5 hz hb
 go_wp2_with (refine wpList_store_row rfl 259 _ _ rfl _ _ rfl rfl _ _ H2.out (by rw [H3.out];exact Hi.out) (by rw [H3.out,H5.out]) H4.out ?_)
 refine bodyPost_ret (v:=.agg (setA commonS)) (results_cell_row rfl _ _ w.heap.size 259 (setA commonS) (0,0) _ rfl (setRow_heap _ _ _ _ _ _ H2.out) Tryz.underlying259 rfl (by rw [H3.out];exact Hi.out)) rfl ⟨rfl,?_⟩
 exact below_setRow Q0.out (Nat.le_refl _) _
theorem zero_set:Tryz.zeroCells259=setA noneS:=by kernel_rfl
set_option maxHeartbeats 400000 in
theorem dots_any (s:ByteArray) (w:World) :
 Calls Tryz.prog 219 #[.string s] w fun e w'=>e=.returned (.bool (L s == [46] || L s == [46,46]))∧w=w':=by
 go_enter Tryz.func219,Tryz.ntmps219
 go_wp2
 · go_ret
   have h:s.toList=[46]:=by assumption
   exact ⟨ret_bool (by rw [←tl,h];rfl),rfl⟩
 · go_ret
   have h:¬ s.toList=[46]:=by assumption
   exact ⟨ret_bool (by rw [←tl]),rfl⟩
set_option maxHeartbeats 400000 in
theorem Valid_any (s:ByteArray) (w:World) (hs:s.size≤9223372036854775807) :
 Calls Tryz.prog 174 #[.string s] w fun e w'=>e=.returned (.bool (validS (L s)))∧Below w.heap.size w w':=by
 have HD:=dots_any s w
 cases hd:(L s == [46] || L s == [46,46])
 · rw [hd] at HD
   have Hd:=Lib.hid hd
   clear hd
   go_enter Tryz.func174,Tryz.ntmps174
   go_wp2_with (first | (go_at_call 219;refine HD.mono ?_;rintro e w' ⟨rfl,rfl⟩) | (go_at_call 220;refine (common_any _).mono ?_;rintro e w1 ⟨rfl,h1⟩) | (go_at_call 189;refine (plus_any _ _ _ (by decide)).mono ?_;rintro e w2 ⟨rfl,h2⟩) | (go_at_call 190;refine (has_any _ _ _ hs).mono ?_;rintro e w3 ⟨rfl,h3⟩))
   · go_ret
     have h:=L_nil (s:=s) (by assumption)
     exact ⟨ret_bool (by rw [h];rfl),Below.refl _ _⟩
   · go_ret
     have h:=L_ne (s:=s) (by assumption)
     have hz:(s.size:Int)≤32:=by assumption
     refine ⟨ret_bool ?_,(h1.trans (h2.mono h1.size)).trans (h3.mono (Nat.le_trans h1.size h2.size))⟩
     rw [validS,tl,h,Hd.out,len_L]
     simp
     intro _
     omega
   · go_ret
     have hz:32<(s.size:Int):=by assumption
     exact ⟨ret_bool (by rw [validS,len_L];simp;omega),Below.refl _ _⟩
 · rw [hd] at HD
   have Hd:=Lib.hid hd
   clear hd
   go_enter Tryz.func174,Tryz.ntmps174
   go_wp2_with (first | (go_at_call 219;refine HD.mono ?_;rintro e w' ⟨rfl,rfl⟩))
   all_goals
    go_ret
    exact ⟨ret_bool (by rw [validS,Hd.out];simp),Below.refl _ _⟩
set_option maxHeartbeats 1000000 in
theorem Key_any (s:ByteArray) (w:World) (hs:s.size≤9223372036854775807) :
 Calls Tryz.prog 160 #[.string s] w fun e w'=>e=.returned (.bool (keyS (L s)))∧Below w.heap.size w w':=by
 have hzc:=zero_set
 by_cases h0:s.toList=[]
 · go_enter Tryz.func160,Tryz.ntmps160
   go_wp2
   go_region
   all_goals go_wp2
   all_goals go_ret
   exact ⟨ret_bool (by rw [L_nil h0];rfl),(Below.refl _ _).drew⟩
 have he:s.toList.isEmpty=false:=by rw [tl];exact L_ne h0
 by_cases h1:(s.size:Int)≤32
 · have hd:decide ((s.size:Int)≤32)=true:=by simpa using h1
   have h2:(1:Int)≤(s.size:Int):=by
    rcases Nat.eq_zero_or_pos s.size with h | h
    · exfalso;apply h0;rw [tl];exact List.eq_nil_of_length_eq_zero (by rw [len_L];exact h)
    · omega
   have e1:(L (s.extract 0 1))=(L s).take 1:=by simp [L,ByteArray.data_extract]
   have hz:(s.extract 0 1).size≤9223372036854775807:=by rw [←len_L,e1,List.length_take];omega
   have HU:∀ W,Calls Tryz.prog 190 #[.agg (setA (addS noneS upperL)),.string (s.extract 0 1)] W fun e w'=>e=.returned (.bool (hasS (addS noneS upperL) ((L s).take 1)))∧Below W.heap.size W w':=fun W=>by
    have:=has_any (addS noneS upperL) (s.extract 0 1) W hz
    rw [e1] at this
    exact this
   clear hz e1
   cases hu:hasS (addS noneS upperL) ((L s).take 1)
   · rw [hu] at HU
     have Hu:=Lib.hid hu
     clear hu
     go_enter Tryz.func160,Tryz.ntmps160
     go_wp2
     refine wp_region_held_drew (S:=fun _=>True) (by kernel_rfl) ?_ (fun hHeld=>?_)
     · trivial
     refine wpAnyH_take (i:=0) (v:=?_) (by simp only [List.getElem?_toArray,List.getElem?_cons_zero];rfl) (by kernel_rfl) (by kernel_rfl) (by kernel_rfl) (by exact fun _ _ _ h=>h) (Or.inl ⟨by rfl,?_⟩) (by assumption) ?_
     rotate_left
     · intro w hSw
       go_simp
       try with_reducible rfl
     try simp only [Act.put,List.setIfInBounds_toArray,List.set_cons_zero,List.set_cons_succ]
     refine wpAnyH_take (i:=1) (v:=?_) (by simp only [List.getElem?_toArray,List.getElem?_cons_succ,List.getElem?_cons_zero];rfl) (by kernel_rfl) (by kernel_rfl) (by kernel_rfl) (by exact fun _ _ _ h=>h) (Or.inl ⟨by rfl,?_⟩) (by assumption) ?_
     rotate_left
     · intro w hSw
       go_simp
       try with_reducible rfl
     try simp only [Act.put,List.setIfInBounds_toArray,List.set_cons_zero,List.set_cons_succ]
     refine wpAnyH_take (i:=2) (v:=?_) (by simp only [List.getElem?_toArray,List.getElem?_cons_succ,List.getElem?_cons_zero];rfl) (by kernel_rfl) (by kernel_rfl) (by kernel_rfl) (by exact fun _ _ _ h=>h) (Or.inl ⟨by rfl,?_⟩) (by assumption) ?_
     rotate_left
     · intro w hSw
       go_simp
       try with_reducible rfl
     try simp only [Act.put,List.setIfInBounds_toArray,List.set_cons_zero,List.set_cons_succ]
     refine wpAnyH_take (i:=3) (v:=?_) (by simp only [List.getElem?_toArray,List.getElem?_cons_succ,List.getElem?_cons_zero];rfl) (by kernel_rfl) (by kernel_rfl) (by kernel_rfl) (by exact fun _ _ _ h=>h) (Or.inl ⟨by rfl,?_⟩) (by assumption) ?_
     rotate_left
     · intro w hSw
       go_simp
       try with_reducible rfl
     try simp only [Act.put,List.setIfInBounds_toArray,List.set_cons_zero,List.set_cons_succ]
     refine wpAnyH_take (i:=4) (v:=?_) (by simp only [List.getElem?_toArray,List.getElem?_cons_succ,List.getElem?_cons_zero];rfl) (by kernel_rfl) (by kernel_rfl) (by kernel_rfl) (by exact fun _ _ _ h=>h) (Or.inl ⟨by rfl,?_⟩) (by assumption) ?_
     rotate_left
     · intro w hSw
       go_simp
       try with_reducible rfl
     try simp only [Act.put,List.setIfInBounds_toArray,List.set_cons_zero,List.set_cons_succ]
     refine wpAnyH_take (i:=5) (v:=?_) (by simp only [List.getElem?_toArray,List.getElem?_cons_succ,List.getElem?_cons_zero];rfl) (by kernel_rfl) (by kernel_rfl) (by kernel_rfl) (by exact fun _ _ _ h=>h) (Or.inl ⟨by rfl,?_⟩) (by assumption) ?_
     rotate_left
     · intro w hSw
       go_simp
       try with_reducible rfl
     try simp only [Act.put,List.setIfInBounds_toArray,List.set_cons_zero,List.set_cons_succ]
     refine wpAnyH_take (i:=6) (v:=?_) (by simp only [List.getElem?_toArray,List.getElem?_cons_succ,List.getElem?_cons_zero];rfl) (by kernel_rfl) (by kernel_rfl) (by kernel_rfl) (by exact fun _ _ _ h=>h) (Or.inl ⟨by rfl,?_⟩) (by assumption) ?_
     rotate_left
     · intro w hSw
       go_simp
       try with_reducible rfl
     try simp only [Act.put,List.setIfInBounds_toArray,List.set_cons_zero,List.set_cons_succ]
     refine wpAnyH_take (i:=7) (v:=?_) (by simp only [List.getElem?_toArray,List.getElem?_cons_succ,List.getElem?_cons_zero];rfl) (by kernel_rfl) (by kernel_rfl) (by kernel_rfl) (by exact fun _ _ _ h=>h) (Or.inl ⟨by rfl,?_⟩) (by assumption) ?_
     rotate_left
     · intro w hSw
       go_simp
       try with_reducible rfl
     try simp only [Act.put,List.setIfInBounds_toArray,List.set_cons_zero,List.set_cons_succ]
     refine wpAnyH_take (i:=8) (v:=?_) (by simp only [List.getElem?_toArray,List.getElem?_cons_succ,List.getElem?_cons_zero];rfl) (by kernel_rfl) (by kernel_rfl) (by kernel_rfl) (by exact fun _ _ _ h=>h) (Or.inl ⟨by rfl,?_⟩) (by assumption) ?_
     rotate_left
     · intro w hSw
       go_simp
       try with_reducible rfl
     try simp only [Act.put,List.setIfInBounds_toArray,List.set_cons_zero,List.set_cons_succ]
     refine wpAnyH_take (i:=10) (v:=?_) (by simp only [List.getElem?_toArray,List.getElem?_cons_succ,List.getElem?_cons_zero];rfl) (by kernel_rfl) (by kernel_rfl) (by kernel_rfl) (by exact fun _ _ _ h=>h) (Or.inl ⟨by rfl,?_⟩) (by assumption) ?_
     rotate_left
     · intro w hSw
       go_simp
       try with_reducible rfl
     try simp only [Act.put,List.setIfInBounds_toArray,List.set_cons_zero,List.set_cons_succ]
     refine wpAnyH_take (i:=11) (v:=?_) (by simp only [List.getElem?_toArray,List.getElem?_cons_succ,List.getElem?_cons_zero];rfl) (by kernel_rfl) (by kernel_rfl) (by kernel_rfl) (by exact fun _ _ _ h=>h) (Or.inl ⟨by rfl,?_⟩) (by assumption) ?_
     rotate_left
     · intro w hSw
       go_simp
       try with_reducible rfl
     try simp only [Act.put,List.setIfInBounds_toArray,List.set_cons_zero,List.set_cons_succ]
     refine wpAnyH_ready (rs:=[9]) (by kernel_rfl) (by simp) ?_
     refine AllReadyH.cons (by simp only [List.getElem?_toArray,List.getElem?_cons_succ,List.getElem?_cons_zero];rfl) (fun K hK=>?_) AllReadyH.nil
     go_simp
     refine (plus_any _ _ _ (by decide)).mono ?_
     rintro e w2 ⟨rfl,h2⟩
     refine hK.out _ _ trivial (fun hHeld=>?_)
     clear hK K
     try simp only [Act.put,List.setIfInBounds_toArray,List.set_cons_zero,List.set_cons_succ]
     refine wpAnyH_ready (rs:=[12]) (by kernel_rfl) (by simp) ?_
     refine AllReadyH.cons (by simp only [List.getElem?_toArray,List.getElem?_cons_succ,List.getElem?_cons_zero];rfl) (fun K hK=>?_) AllReadyH.nil
     go_simp
     refine (HU _).mono ?_
     rintro e w3 ⟨rfl,h3⟩
     refine hK.out _ _ trivial (fun hHeld=>?_)
     clear hK K
     try simp only [Act.put,List.setIfInBounds_toArray,List.set_cons_zero,List.set_cons_succ]
     refine wpAnyH_take (i:=13) (v:=?_) (by simp only [List.getElem?_toArray,List.getElem?_cons_succ,List.getElem?_cons_zero];rfl) (by kernel_rfl) (by kernel_rfl) (by kernel_rfl) (by exact fun _ _ _ h=>h) (Or.inl ⟨by rfl,?_⟩) (by assumption) ?_
     rotate_left
     · intro w hSw
       go_simp
       try with_reducible rfl
     try simp only [Act.put,List.setIfInBounds_toArray,List.set_cons_zero,List.set_cons_succ]
     refine wpAnyH_take (i:=14) (v:=?_) (by simp only [List.getElem?_toArray,List.getElem?_cons_succ,List.getElem?_cons_zero];rfl) (by kernel_rfl) (by kernel_rfl) (by kernel_rfl) (by exact fun _ _ _ h=>h) (Or.inl ⟨by rfl,?_⟩) (by assumption) ?_
     rotate_left
     · intro w hSw
       go_simp
       try with_reducible rfl
     try simp only [Act.put,List.setIfInBounds_toArray,List.set_cons_zero,List.set_cons_succ]
     refine wpAnyH_take (i:=15) (by simp only [List.getElem?_toArray,List.getElem?_cons_succ,List.getElem?_cons_zero];rfl) (by kernel_rfl) (by kernel_rfl) (by kernel_rfl) (by exact fun _ _ _ h=>h) (Or.inr ⟨by rfl,rfl⟩) (by assumption) ?_
     try simp only [Act.put,List.setIfInBounds_toArray,List.set_cons_zero,List.set_cons_succ]
     refine wpAnyH_take (i:=16) (by simp only [List.getElem?_toArray,List.getElem?_cons_succ,List.getElem?_cons_zero];rfl) (by kernel_rfl) (by kernel_rfl) (by kernel_rfl) (by exact fun _ _ _ h=>h) (Or.inr ⟨by rfl,rfl⟩) (by assumption) ?_
     try simp only [Act.put,List.setIfInBounds_toArray,List.set_cons_zero,List.set_cons_succ]
     refine wpAnyH_take (i:=17) (by simp only [List.getElem?_toArray,List.getElem?_cons_succ,List.getElem?_cons_zero];rfl) (by kernel_rfl) (by kernel_rfl) (by kernel_rfl) (by exact fun _ _ _ h=>h) (Or.inr ⟨by rfl,rfl⟩) (by assumption) ?_
     try simp only [Act.put,List.setIfInBounds_toArray,List.set_cons_zero,List.set_cons_succ]
     refine wpAnyH_take (i:=18) (by simp only [List.getElem?_toArray,List.getElem?_cons_succ,List.getElem?_cons_zero];rfl) (by kernel_rfl) (by kernel_rfl) (by kernel_rfl) (by exact fun _ _ _ h=>h) (Or.inr ⟨by rfl,rfl⟩) (by assumption) ?_
     try simp only [Act.put,List.setIfInBounds_toArray,List.set_cons_zero,List.set_cons_succ]
     refine wpAnyH_take (i:=19) (by simp only [List.getElem?_toArray,List.getElem?_cons_succ,List.getElem?_cons_zero];rfl) (by kernel_rfl) (by kernel_rfl) (by kernel_rfl) (by exact fun _ _ _ h=>h) (Or.inr ⟨by rfl,rfl⟩) (by assumption) ?_
     try simp only [Act.put,List.setIfInBounds_toArray,List.set_cons_zero,List.set_cons_succ]
     refine wpAnyH_take (i:=20) (by simp only [List.getElem?_toArray,List.getElem?_cons_succ,List.getElem?_cons_zero];rfl) (by kernel_rfl) (by kernel_rfl) (by kernel_rfl) (by exact fun _ _ _ h=>h) (Or.inr ⟨by rfl,rfl⟩) (by assumption) ?_
     try simp only [Act.put,List.setIfInBounds_toArray,List.set_cons_zero,List.set_cons_succ]
     refine wpAnyH_take (i:=21) (v:=?_) (by simp only [List.getElem?_toArray,List.getElem?_cons_succ,List.getElem?_cons_zero];rfl) (by kernel_rfl) (by kernel_rfl) (by kernel_rfl) (by exact fun _ _ _ h=>h) (Or.inl ⟨by rfl,?_⟩) (by assumption) ?_
     rotate_left
     · intro w hSw
       go_simp
       try with_reducible rfl
     try simp only [Act.put,List.setIfInBounds_toArray,List.set_cons_zero,List.set_cons_succ]
     refine wpAnyH_take (i:=22) (v:=?_) (by simp only [List.getElem?_toArray,List.getElem?_cons_succ,List.getElem?_cons_zero];rfl) (by kernel_rfl) (by kernel_rfl) (by kernel_rfl) (by exact fun _ _ _ h=>h) (Or.inl ⟨by rfl,?_⟩) (by assumption) ?_
     rotate_left
     · intro w hSw
       go_simp
       try with_reducible rfl
     try simp only [Act.put,List.setIfInBounds_toArray,List.set_cons_zero,List.set_cons_succ]
     refine wpAnyH_done (by kernel_rfl) ?_ _
     go_wp2
     go_ret
     exact ⟨ret_bool (by rw [keyS,Hu.out];simp),(((Below.refl _ _).drew).trans h2).trans (h3.mono h2.size)⟩
   · rw [hu] at HU
     have Hu:=Lib.hid hu
     clear hu
     go_enter Tryz.func160,Tryz.ntmps160
     go_wp2
     go_region_held3 (fun _=>True) (trivial) (first | (go_at_call 189;with_reducible refine (plus_any _ _ _ (by decide)).mono ?_;rintro e w2 ⟨rfl,h2⟩) | (go_at_call_of 190 (s.extract 0 1);refine (HU _).mono ?_;rintro e w3 ⟨rfl,h3⟩) | (go_at_call 190;refine (has_any _ _ _ hs).mono ?_;rintro e w4 ⟨rfl,h4⟩))
     all_goals go_wp2
     go_ret
     refine ⟨ret_bool ?_,by repeat (first | exact (Below.refl _ _).drew | refine bt ?_ (by assumption))⟩
     rw [keyS,len_L,L_ne h0,Hu.out]
     show hasS (addS (addS (addS noneS upperL) digitL) [95]) (L s)=_
     simp
     omega
 · have hd:decide ((s.size:Int)≤32)=false:=by simpa using h1
   go_enter Tryz.func160,Tryz.ntmps160
   go_wp2
   go_region
   all_goals go_wp2
   all_goals go_ret
   exact ⟨ret_bool (by rw [keyS,len_L];simp;omega),(Below.refl _ _).drew⟩
end
section
open Go.RowKit
theorem bless:∀ x y:Str,Op.bytesLess x y=decide (x<y)
 | [],[]=>by simp [Op.bytesLess]
 | [],_ :: _=>by simp [Op.bytesLess]
 | _ :: _,[]=>by simp [Op.bytesLess]
 | a :: x,b :: y=>by
   rw [Op.bytesLess,bless x y]
   simp only [List.cons_lt_cons_iff]
   by_cases h1:a<b <;> by_cases h2:a=b <;> by_cases h3:x<y <;> simp [h1,h2,h3]
theorem slt_irr (x:Str):¬ x<x:=List.lt_irrefl x
theorem slt_tr {x y z:Str} (h:x<y) (k:y<z):x<z:=List.lt_trans h k
theorem slt_tri {x y:Str} (h:¬ x<y) (k:x≠y):y<x:=by
 rcases List.le_total x y with h1 | h1
 · exact absurd (Decidable.byContradiction fun h2=>k (List.le_antisymm h1 h2)) h
 · exact Decidable.byContradiction fun h2=>k (List.le_antisymm h2 h1)
def putS:List Str→Str→List Str
 | [],s=>[s]
 | x :: r,s=>if x<s then x :: putS r s else if x=s then x :: r else s :: x :: r
theorem mem_putS (l:List Str) (s y:Str):y∈putS l s↔y∈l∨y=s:=by
 induction l with
 | nil=>simp [putS]
 | cons x r ih =>
   rw [putS]
   split
   · rw [List.mem_cons,ih,List.mem_cons,or_assoc]
   · split
     · rename_i _ e
       subst e
       simp only [List.mem_cons]
       constructor
       · exact fun h=>Or.inl h
       · rintro (h | h)
         · exact h
         · exact Or.inl h
     · simp only [List.mem_cons]
       constructor
       · rintro (h | h | h) <;> simp [h]
       · rintro ((h | h) | h) <;> simp [h]
theorem len_putS (l:List Str) (s:Str):(putS l s).length≤l.length+1:=by
 induction l with
 | nil=>simp [putS]
 | cons x r ih =>
   rw [putS]
   split
   · simp only [List.length_cons];omega
   · split <;> simp
theorem asc_putS {l:List Str} (h:l.Pairwise (· < ·)) (s:Str):(putS l s).Pairwise (· < ·):=by
 induction l with
 | nil=>simp [putS]
 | cons x r ih =>
   rw [List.pairwise_cons] at h
   rw [putS]
   split
   · rename_i hx
     refine List.pairwise_cons.2 ⟨fun y hy=>?_,ih h.2⟩
     rcases (mem_putS r s y).1 hy with hy | rfl
     · exact h.1 y hy
     · exact hx
   · split
     · exact List.pairwise_cons.2 h
     · rename_i h1 h2
       have hs:=slt_tri h1 h2
       refine List.pairwise_cons.2 ⟨fun y hy=>?_,List.pairwise_cons.2 h⟩
       rcases List.mem_cons.1 hy with rfl | hy
       · exact hs
       · exact slt_tr hs (h.1 y hy)
abbrev nm (x:At):Str:=L x.name
def findF (d:List At) (n:Str):Option At:=d.find? fun x=>nm x == n
theorem findF_name {d:List At} {n:Str} {x:At} (h:findF d n=some x):nm x=n∧x∈d :=
 ⟨by have:=List.find?_some h;simpa using this,List.mem_of_find?_eq_some h⟩
theorem findF_none {d:List At} {n:Str}:findF d n=none↔n ∉ d.map nm:=by
 unfold findF
 rw [List.find?_eq_none]
 simp only [List.mem_map,beq_iff_eq,not_exists,not_and]
end
section
structure Dv where
 ix:Int
 pa:Int
 nam:ByteArray
 og:ByteArray
 sb:ByteArray
 dr:ByteArray
 al:ByteArray
 kd:Int
 nb:Int
 ats:Ls At
def encDv (d:Dv):List Value:=[.int .i64 d.ix,.int .i64 d.pa,.string d.nam,.string d.og,.string d.sb,.string d.dr,.string d.al,.int .i64 d.kd,.int .i64 d.nb,.slice d.ats.A d.ats.l.length d.ats.c]
def dvV (d:Dv):Value:=.agg #[.int .i64 d.ix,.int .i64 d.pa,.string d.nam,.string d.og,.string d.sb,.string d.dr,.string d.al,.int .i64 d.kd,.int .i64 d.nb,.slice d.ats.A d.ats.l.length d.ats.c]
def attrS (l:List At) (n:Str):ByteArray:=match findF l n with
 | some x=>x.val
 | none=>⟨#[]⟩
def seenV (t:Tm) (d:Dv):Option ByteArray :=
 if t.key=2∨t.key=8 then some d.og else if t.key=3∨t.key=9 then some d.sb else if t.key=4∨t.key=10 then some d.dr else if t.key=5∨t.key=11 then some (attrS d.ats.l (L t.name)) else none
def holdsB (t:Tm) (v:ByteArray):Bool:=globM (L t.value) (L v) == (t.op == 1)
def devB (t:Tm) (d:Dv):Bool:=matchB t.op && match seenV t d with
 | some v=>holdsB t v
 | none=>false
def staticB (t:Tm):Bool:=matchB t.op && (t.key == 2 || t.key == 3 || t.key == 4 || t.key == 5)
def upB (t:Tm):Bool:=matchB t.op && (t.key == 8 || t.key == 9 || t.key == 10 || t.key == 11)
end
section
structure Dd where
 ix:Int
 pa:Int
 nam:ByteArray
 og:ByteArray
 sb:ByteArray
 dr:ByteArray
 al:ByteArray
 kd:Int
 nb:Int
 ats:List At
def Dv.d (x:Dv):Dd:=⟨x.ix,x.pa,x.nam,x.og,x.sb,x.dr,x.al,x.kd,x.nb,x.ats.l⟩
def chR:List Dd→Int→List Dd
 | [],_=>[]
 | d :: r,n=>if d.ix=n then d :: chR r d.pa else chR r n
def chS (l:List Dd) (n:Int):List Dd:=chR l.reverse n
def findD (l:List Dd) (n:Int):Option Dd:=l.find? fun d=>d.ix == n
def WfR:List Dd→Prop
 | []=>True
 | d :: r=>1≤d.ix∧(∀ x∈r,x.ix≠d.ix)∧(d.pa=0∨∃ x∈r,x.ix=d.pa)∧WfR r
def WfT (l:List Dd):Prop:=WfR l.reverse
theorem chR_skip {d:Dd} {r:List Dd} {n:Int} (h:d.ix≠n):chR (d :: r) n=chR r n:=by rw [chR,if_neg h]
theorem chR_len:∀ (r:List Dd) (n:Int),(chR r n).length≤r.length
 | [],_=>Nat.le_refl _
 | d :: r,n=>by
   rw [chR]
   split
   · have:=chR_len r d.pa;simp;omega
   · have:=chR_len r n;simp;omega
theorem chR_mem:∀ (r:List Dd) (n:Int),∀ x∈chR r n,x∈r
 | [],_,x,h=>h
 | d :: r,n,x,h=>by
   rw [chR] at h
   split at h
   · rcases List.mem_cons.1 h with rfl | h
     · exact List.mem_cons_self ..
     · exact List.mem_cons_of_mem _ (chR_mem r _ x h)
   · exact List.mem_cons_of_mem _ (chR_mem r _ x h)
theorem findD_some {l:List Dd} {n:Int} {x:Dd} (h:findD l n=some x):x∈l∧x.ix=n :=
 ⟨List.mem_of_find?_eq_some h,by have:=List.find?_some h;simpa using this⟩
theorem findD_none {l:List Dd} {n:Int}:findD l n=none↔∀ x∈l,x.ix≠n:=by
 unfold findD
 rw [List.find?_eq_none]
 simp
theorem chS_mem {l:List Dd} {n:Int} {x:Dd} (h:x∈chS l n):x∈l:=List.mem_reverse.1 (chR_mem _ _ _ h)
def orgS (c:List Dd):Str:=c.reverse.flatMap fun d=>47 :: L d.og
theorem orgS_nil:orgS []=[]:=rfl
theorem orgS_cons (d:Dd) (c:List Dd):orgS (d :: c)=orgS c++47 :: L d.og:=by simp [orgS]
def orgB (l:List Dd) (n:Int):ByteArray:=bs (orgS (chS l n))
theorem wfR_ins:∀ {a b:List Dd} {d:Dd},WfR (a++b)→1≤d.ix→(∀ x∈a++b,x.ix≠d.ix)→(d.pa=0∨∃ x∈b,x.ix=d.pa)→WfR (a++d :: b)
 | [],b,d,h,h1,h2,h3=>⟨h1,fun x hx=>h2 x (by simpa using hx),h3,h⟩
 | y :: a,b,d,h,h1,h2,h3=>by
   refine ⟨h.1,fun x hx=>?_,?_,wfR_ins h.2.2.2 h1 (fun x hx=>h2 x (List.mem_cons_of_mem _ hx)) h3⟩
   · rcases List.mem_append.1 hx with hx | hx
     · exact h.2.1 x (List.mem_append_left _ hx)
     · rcases List.mem_cons.1 hx with rfl | hx
       · exact fun e=>h2 y (List.mem_cons_self ..) e.symm
       · exact h.2.1 x (List.mem_append_right _ hx)
   · rcases h.2.2.1 with e | ⟨x,hx,e⟩
     · exact Or.inl e
     · refine Or.inr ⟨x,?_,e⟩
       rcases List.mem_append.1 hx with hx | hx
       · exact List.mem_append_left _ hx
       · exact List.mem_append_right _ (List.mem_cons_of_mem _ hx)
theorem wfT_ins {l:List Dd} {k:Nat} {d:Dd} (h:WfT l) (h1:1≤d.ix) (h2:findD l d.ix=none) (h3:d.pa=0∨∃ x∈l.take k,x.ix=d.pa):WfT (l.take k++d :: l.drop k):=by
 unfold WfT at h ⊢
 rw [List.reverse_append,List.reverse_cons,List.append_assoc,List.singleton_append]
 have e:l.reverse=(l.drop k).reverse++(l.take k).reverse:=by rw [←List.reverse_append,List.take_append_drop]
 refine wfR_ins (by rw [←e];exact h) h1 (fun x hx=>findD_none.1 h2 x (by rw [←e] at hx;exact List.mem_reverse.1 hx)) ?_
 rcases h3 with e | ⟨x,hx,e⟩
 · exact Or.inl e
 · exact Or.inr ⟨x,List.mem_reverse.2 hx,e⟩
end
section
structure Dr where
 props:List At
 tags:List Str
 links:List Str
 run:List Str
 load:List Str
 nam:ByteArray
 prio:Int
 own:ByteArray
 grp:ByteArray
 mode:Int
 res:ByteArray
 calls:Int
 ticks:Int
 closed:List Tm
def AscA (l:List At):Prop:=l.Pairwise fun x y=>nm x<nm y
def headA (l:List At) (k:Str):List At:=l.takeWhile fun x=>decide (nm x<k)
def tailA (l:List At) (k:Str):List At:=l.dropWhile fun x=>decide (nm x<k)
def restA (l:List At) (k:Str):List At:=match tailA l k with
 | []=>[]
 | y :: r=>if nm y=k then r else y :: r
def setP (l:List At) (x:At):List At:=headA l (nm x)++((if (L x.val).isEmpty then [] else [x])++restA l (nm x))
theorem head_tail (l:List At) (k:Str):headA l k++tailA l k=l:=List.takeWhile_append_dropWhile
theorem headA_lt {l:List At} {k:Str} {x:At} (h:x∈headA l k):nm x<k∧x∈l:=by
 refine ⟨?_,(List.takeWhile_sublist _).subset h⟩
 unfold headA at h
 induction l with
 | nil=>cases h
 | cons y l ih =>
   rw [List.takeWhile_cons] at h
   split at h
   · rename_i hy
     rcases List.mem_cons.1 h with rfl | h
     · simpa using hy
     · exact ih h
   · cases h
theorem tailA_ge {l:List At} (ha:AscA l) {k:Str} {x:At} (h:x∈tailA l k):¬ nm x<k∧x∈l:=by
 induction l with
 | nil=>cases h
 | cons y l ih =>
   have ha2:=List.pairwise_cons.1 ha
   unfold tailA at h
   rw [List.dropWhile_cons] at h
   split at h
   · obtain ⟨h1,h2⟩:=ih ha2.2 h
     exact ⟨h1,List.mem_cons_of_mem _ h2⟩
   · rename_i hy
     have hy':¬ nm y<k:=by simpa using hy
     refine ⟨?_,h⟩
     rcases List.mem_cons.1 h with rfl | h
     · exact hy'
     · intro hlt
       exact hy' (slt_tr (ha2.1 x h) hlt)
theorem restA_sub {l:List At} {k:Str} {x:At} (h:x∈restA l k):x∈tailA l k:=by
 unfold restA at h
 split at h
 · cases h
 · rename_i y r e
   rw [e]
   split at h
   · exact List.mem_cons_of_mem _ h
   · exact h
theorem restA_gt {l:List At} (ha:AscA l) {k:Str} {x:At} (h:x∈restA l k):k<nm x∧x∈l:=by
 have h0:=restA_sub h
 obtain ⟨h1,h2⟩:=tailA_ge ha h0
 refine ⟨slt_tri h1 fun e=>?_,h2⟩
 have hp:(tailA l k).Pairwise fun x y=>nm x<nm y:=List.Pairwise.sublist (List.dropWhile_sublist _) ha
 unfold restA at h
 split at h
 · cases h
 · rename_i y r et
   rw [et] at hp
   have hp2:=List.pairwise_cons.1 hp
   split at h
   · rename_i ey
     have:=hp2.1 x h
     rw [ey,e] at this
     exact slt_irr _ this
   · rename_i ey
     rcases List.mem_cons.1 h with rfl | h
     · exact ey e
     · obtain ⟨h3,_⟩:=tailA_ge ha (x:=y) (k:=k) (by rw [et];exact List.mem_cons_self ..)
       have:=hp2.1 x h
       rw [e] at this
       exact h3 this
theorem ascA_set {l:List At} (ha:AscA l) (x:At):AscA (setP l x):=by
 unfold AscA setP
 rw [List.pairwise_append,List.pairwise_append]
 refine ⟨List.Pairwise.sublist (List.takeWhile_sublist _) ha,⟨?_,?_,?_⟩,?_⟩
 · split <;> simp
 · unfold restA
   have hp:(tailA l (nm x)).Pairwise fun x y=>nm x<nm y:=List.Pairwise.sublist (List.dropWhile_sublist _) ha
   split
   · exact List.Pairwise.nil
   · rename_i y r e
     rw [e] at hp
     split
     · exact (List.pairwise_cons.1 hp).2
     · exact hp
 · intro a h1 b h2
   split at h1
   · cases h1
   · obtain rfl:=List.mem_singleton.1 h1
     exact (restA_gt ha h2).1
 · intro a h1 b h2
   obtain ⟨h3,_⟩:=headA_lt h1
   rcases List.mem_append.1 h2 with h2 | h2
   · split at h2
     · cases h2
     · obtain rfl:=List.mem_singleton.1 h2
       exact h3
   · exact slt_tr h3 (restA_gt ha h2).1
theorem mem_setP {l:List At} {x y:At} (h:y∈setP l x):y∈l∨(y=x∧(L x.val).isEmpty=false):=by
 unfold setP at h
 rcases List.mem_append.1 h with h | h
 · exact Or.inl (headA_lt h).2
 rcases List.mem_append.1 h with h | h
 · split at h
   · cases h
   · rename_i he
     exact Or.inr ⟨List.mem_singleton.1 h,by simpa using he⟩
 · exact Or.inl ((List.dropWhile_sublist _).subset (restA_sub h))
theorem len_restA (l:List At) (k:Str):(restA l k).length≤(tailA l k).length:=by
 unfold restA
 split
 · exact Nat.zero_le _
 · rename_i e
   rw [e]
   split <;> simp
theorem len_setP (l:List At) (x:At):(setP l x).length≤l.length+1:=by
 have h1:=congrArg List.length (head_tail l (nm x))
 have h2:=len_restA l (nm x)
 unfold setP
 rw [List.length_append] at h1
 rw [List.length_append,List.length_append]
 split <;> simp <;> omega
theorem tailA_hit {l:List At} (ha:AscA l) {k:Str} {x:At} (h:findF l k=some x):∃ r,tailA l k=x :: r∧restA l k=r:=by
 obtain ⟨h1,h2⟩:=findF_name h
 have h3:x∈tailA l k:=by
  rw [←head_tail l k] at h2
  rcases List.mem_append.1 h2 with h2 | h2
  · have:=(headA_lt h2).1
    rw [h1] at this
    exact absurd this (slt_irr _)
  · exact h2
 have hp:(tailA l k).Pairwise fun x y=>nm x<nm y:=List.Pairwise.sublist (List.dropWhile_sublist _) ha
 cases ht:tailA l k with
 | nil=>rw [ht] at h3;cases h3
 | cons y r =>
   rw [ht] at h3 hp
   have hp2:=List.pairwise_cons.1 hp
   have e:y=x:=by
    rcases List.mem_cons.1 h3 with e | h4
    · exact e.symm
    · have h5:=hp2.1 x h4
      rw [h1] at h5
      exact absurd h5 (tailA_ge ha (x:=y) (k:=k) (by rw [ht];exact List.mem_cons_self ..)).1
   subst e
   refine ⟨r,rfl,?_⟩
   unfold restA
   rw [ht]
   exact if_pos h1
theorem restA_miss {l:List At} {k:Str} (h:findF l k=none):restA l k=tailA l k:=by
 unfold restA
 cases ht:tailA l k with
 | nil=>rfl
 | cons y r =>
   refine if_neg fun e=>?_
   exact findF_none.1 h (List.mem_map.2 ⟨y,(List.dropWhile_sublist _).subset (by show y∈tailA l k;rw [ht];exact List.mem_cons_self ..),e⟩)
theorem len_setP_has {l:List At} (ha:AscA l) {x y:At} (h:findF l (nm x)=some y):(setP l x).length≤l.length:=by
 obtain ⟨r,h1,h2⟩:=tailA_hit ha h
 have h3:=congrArg List.length (head_tail l (nm x))
 unfold setP
 rw [List.length_append,h1,List.length_cons] at h3
 rw [List.length_append,List.length_append,h2]
 split <;> simp <;> omega
def baseL:List Str:=[[68,69,86,78,65,77,69],[68,69,86,80,65,84,72],[68,82,73,86,69,82],[73,78,84,69,82,70,65,67,69],[77,79,68,65,76,73,65,83],[78,85,77,66,69,82],[83,85,66,83,89,83,84,69,77]]
def baseB (k:Str):Bool:=baseL.contains k
def envB (d:Dr) (k v:ByteArray):Bool:=baseB (L k) || !textS (L v) || ((findF d.props (L k)).isNone && decide (64≤d.props.length))
def envS (d:Dr) (k v:ByteArray):Dr:=if envB d k v then d else { d with props:=setP d.props ⟨k,v⟩ }
def spB:ByteArray:=⟨#[32]⟩
def moreS (d:Dr) (k v:ByteArray):Dr:=if (L v).isEmpty then d else match findF d.props (L k) with
 | some x=>envS d k ((x.val++spB++v).extract 0 256)
 | none=>envS d k v
def putM (l:List Str) (s:Str) (m:Nat):List Str:=if s∈l∨m≤l.length then l else putS l s
def dropL (l:List Str) (s:Str):List Str:=l.filter fun x => !(x == s)
theorem asc_putM {l:List Str} (h:l.Pairwise (· < ·)) (s:Str) (m:Nat):(putM l s m).Pairwise (· < ·):=by
 unfold putM
 split
 · exact h
 · exact asc_putS h s
theorem len_putM {l:List Str} {s:Str} {m:Nat} (h:l.length≤m):(putM l s m).length≤m:=by
 unfold putM
 split
 · exact h
 · rename_i hn
   have:=len_putS l s
   have:¬ m≤l.length:=fun e=>hn (Or.inr e)
   omega
theorem mem_putM {l:List Str} {s x:Str} {m:Nat} (h:x∈putM l s m):x∈l∨x=s:=by
 unfold putM at h
 split at h
 · exact Or.inl h
 · exact (mem_putS _ _ _).1 h
theorem asc_dropL {l:List Str} (h:l.Pairwise (· < ·)) (s:Str):(dropL l s).Pairwise (· < ·):=List.Pairwise.filter _ h
theorem len_dropL (l:List Str) (s:Str):(dropL l s).length≤l.length:=List.length_filter_le _ _
end
section
open Go.RowKit
structure DirsAt (w:World) (A:Option Addr) (ds:List (Ls At)):Prop where
 outer:RowAt w w.heap.size A 1 ds.length (ds.map Ls.v)
 inner:InAt 2 encAt id w w.heap.size ds
 cap:∀ d∈ds,d.l.length≤d.c
def bulk (ds:List (Ls At)):Nat:=(ds.map fun d=>1+d.l.length).sum
theorem bulk_cons (d:Ls At) (r:List (Ls At)):bulk (d :: r)=1+d.l.length+bulk r:=by simp [bulk]
theorem bulk_len (ds:List (Ls At)):ds.length≤bulk ds:=by
 induction ds with
 | nil=>exact Nat.zero_le _
 | cons d r ih=>rw [bulk_cons,List.length_cons];omega
theorem DirsAt.dir {w:World} {A:Option Addr} {ds:List (Ls At)} (h:DirsAt w A ds) {i:Nat} (hi:i<ds.length) :
 ∃ g off,A=some ⟨g,off,none⟩∧g<w.heap.size∧(∀ W,Below w.heap.size w W→W.cell? ⟨g,off+i,none⟩=some (.slice ds[i].A ds[i].l.length ds[i].c))∧(∀ W,Below w.heap.size w W→RowAt W W.heap.size ds[i].A 2 ds[i].l.length (cellsOf encAt ds[i].l)):=by
 obtain ⟨g,off,e,hg,hc⟩:=h.outer.at_ (by omega)
 refine ⟨g,off,e,hg,fun W hb=>?_,fun W hb=>?_⟩
 · rw [hb.cell (p:=⟨g,off+i,none⟩) hg]
   exact hc i _ (by rw [List.getElem?_map,List.getElem?_eq_getElem hi];rfl)
 · exact ((h.inner _ (List.getElem_mem hi)).keep hb).up hb.size
theorem RowAt.file {w:World} {B:Nat} {A:Option Addr} {l:List At} (h:RowAt w B A 2 l.length (cellsOf encAt l)) {k:Nat} (hk:k<l.length) :
 ∃ ba off,A=some ⟨ba,off,none⟩∧ba<B∧∀ W,Below B w W→W.cell? ⟨ba,off+k*2,none⟩=some (.string l[k].name)∧W.cell? ⟨ba,off+k*2+1,none⟩=some (.string l[k].val):=by
 obtain ⟨ba,off,e,hB,hc⟩:=h.cell encAt_len hk
 refine ⟨ba,off,e,hB,fun W hb=>⟨?_,?_⟩⟩
 · rw [hb.cell (p:=⟨ba,off+k*2,none⟩) hB]
   exact hc k _ (List.getElem?_eq_getElem hk) 0 _ rfl
 · rw [hb.cell (p:=⟨ba,off+k*2+1,none⟩) hB]
   exact hc k _ (List.getElem?_eq_getElem hk) 1 _ rfl
theorem RowAt.fileX {w:World} {B:Nat} {A:Option Addr} {l:List At} (h:RowAt w B A 2 l.length (cellsOf encAt l)) {k:Nat} {x:At} (hx:l[k]? = some x) :
 ∃ ba off,A=some ⟨ba,off,none⟩∧ba<B∧∀ W,Below B w W→W.cell? ⟨ba,off+k*2,none⟩=some (.string x.name)∧W.cell? ⟨ba,off+k*2+1,none⟩=some (.string x.val):=by
 obtain ⟨hk,rfl⟩:=List.getElem?_eq_some_iff.1 hx
 exact h.file hk
theorem RowAt.head {w:World} {B k n m:Nat} {A:Option Addr} {xs:List Value} (h:RowAt w B A k n xs) (hm:m≤n):RowAt w B A k m (xs.take (m*k)):=by
 refine ⟨?_,fun hm0=>?_⟩
 · rw [List.length_take,h.len]
   have:=Nat.mul_le_mul_right k hm
   omega
 · obtain ⟨ba,off,e,hB,hc⟩:=h.at_ (by omega)
   refine ⟨ba,off,e,hB,fun j u hu=>hc j u ?_⟩
   rw [List.getElem?_take] at hu
   split at hu
   · exact hu
   · cases hu
theorem cellsOf_take {α:Type} (enc:α→List Value) (k:Nat) (hk:∀ x,(enc x).length=k) (l:List α) (m:Nat):(cellsOf enc l).take (m*k)=cellsOf enc (l.take m):=by
 induction l generalizing m with
 | nil=>simp [cellsOf]
 | cons x l ih =>
   cases m with
   | zero=>simp [cellsOf]
   | succ m =>
     have e:cellsOf enc (x :: l)=enc x++cellsOf enc l:=by simp [cellsOf]
     have e2:cellsOf enc ((x :: l).take (m+1))=enc x++cellsOf enc (l.take m):=by simp [cellsOf]
     rw [e,e2,List.take_append,hk,←ih m,List.take_of_length_le (by rw [hk,Nat.add_mul];omega),show (m+1)*k - k=m*k from by rw [Nat.add_mul];omega]
end
section
open Go.RowKit
theorem own_base {w:World} {base base' kk n:Nat} {e:TypeId} {v:Value} {xs:List Value} (h:w.ownsRow base' e kk v n xs) (hb:base≤base'):w.ownsRow base e kk v n xs:=by
 refine ⟨h.1,?_⟩
 rcases h.2 with h1 | ⟨g,cap,cur,h1,h2,h3⟩
 · exact Or.inl h1
 · exact Or.inr ⟨g,cap,cur,h1,Nat.le_trans hb h2,h3⟩
section
variable {α:Type} {TO TI:TypeId} {k:Nat} {enc:α→List Value} {w w':World} {base:Nat} {v:Value} {vs:List Value} {ls:List (List α)}
end
end
section
open Go.RowKit
def inS (l set:Str):Bool:=l.all fun b=>set.contains b
theorem inS_snoc (l set:Str) (c:UInt8):inS (l++[c]) set=(inS l set && set.contains c):=by simp [inS]
theorem inS_no {set:Str} {k:Nat} (s:ByteArray) (hk:k<s.size) (h:set.contains s[k]=false):inS (L s) set=false:=by
 rw [inS,List.all_eq_false]
 exact ⟨s[k],by rw [←L_get s k hk];exact List.getElem_mem _,by rw [h];simp⟩
theorem byte_back (c:UInt8):((c.toNat:Int)).toNat.toUInt8=c:=by simp
theorem indexByte_neg (set:Str) (c:UInt8):(Lib.indexByte set c<0)↔set.contains c=false:=by
 have h1:=Lib.indexByte_ge set c
 constructor
 · intro h
   have h2:Lib.indexByte set c = -1:=by omega
   have h3:=Lib.indexByte_none h2
   cases hc:set.contains c with
   | false=>rfl
   | true =>
     have hm:c∈set:=by simpa using hc
     obtain ⟨k,hk⟩:=List.getElem?_of_mem hm
     exact absurd hk (h3 k)
 · intro h
   rcases (by omega:Lib.indexByte set c<0∨0≤Lib.indexByte set c) with h2 | h2
   · exact h2
   · obtain ⟨o,ho⟩:=Int.eq_ofNat_of_zero_le h2
     have h3:=(Lib.indexByte_some ho).1
     have hm:c∈set:=List.mem_of_getElem? h3
     rw [List.contains_eq_mem] at h
     simp [hm] at h
set_option maxHeartbeats 400000 in
theorem in_any (s set:ByteArray) (w:World) (hs:s.size≤9223372036854775807) :
 Calls Tryz.prog 98 #[.string s,.string set] w fun e w'=>e=.returned (.bool (inS (L s) (L set)))∧w=w':=by
 go_enter Tryz.func98,Tryz.ntmps98
 go_wp2
 go_loop [5] (fun i=>∃ k:Nat,k≤s.size∧i=.int .i64 k∧Hid (inS ((L s).take k) (L set)=true)) (fun i=>s.size - (intOf i).toNat)
 case atStart=>exact ⟨0,Nat.zero_le _,rfl,rfl⟩
 case round =>
  obtain ⟨k,hk,rfl,hp⟩:=hrel
  by_cases hlt:k<s.size
  · have H:=indexByte_neg (L set) s[k]
    have HC:∀ W,Calls Tryz.prog 125 #[.string set,.int .u8 s[k].toNat] W fun e w'=>e=.returned (.int .i64 (Lib.indexByte (L set) s[k]))∧W=w':=fun W =>
     (Tryz.strings_IndexByte set s[k].toNat W).mono fun e w' h=>⟨by rw [h.1,byte_back],h.2.symm⟩
    generalize Lib.indexByte (L set) s[k]=q at *
    have Hq:=Lib.hid H
    clear H
    go_wp2_with (go_at_call 125;refine (HC _).mono ?_;rintro e w' ⟨rfl,rfl⟩)
    · go_ret
      have hq:q<0:=by assumption
      exact ⟨ret_bool (by rw [inS_no s hlt (Hq.out.1 hq)]),rfl⟩
    · have hq:¬ q<0:=by omega
      go_round
      case rel=>exact ⟨k+1,by omega,by go_num,by
       show inS _ _=true
       rw [take_snoc s k hlt,inS_snoc,hp.out]
       cases hc:(L set).contains s[k] with
       | true=>rfl
       | false=>exact absurd (Hq.out.2 hc) hq⟩
      case measure=>simp [intOf];omega
  · go_wp2
    go_ret
    have h:=hp.out
    rw [take_all s k hlt] at h
    exact ⟨ret_bool (by rw [h]),rfl⟩
theorem addS_at (f:Nat→Bool) (l:Str) (b:UInt8):addS f l b.toNat=(f b.toNat || l.contains b):=by
 simp only [addS]
 congr 1
 rw [Bool.eq_iff_iff]
 simp only [List.any_eq_true,beq_iff_eq,List.contains_iff_mem]
 constructor
 · rintro ⟨x,hx,e⟩
   have:x=b:=UInt8.toNat_inj.1 e
   rw [←this];exact hx
 · intro h
   exact ⟨b,h,rfl⟩
theorem noneS_at (b:UInt8):noneS b.toNat=false:=by unfold noneS;rfl
theorem hasS_in (f:Nat→Bool) (set l:Str) (h:∀ b:UInt8,f b.toNat=set.contains b):hasS f l=inS l set:=by
 unfold hasS inS
 congr 1
 funext b
 exact h b
def nameL:Str:=[65,66,67,68,69,70,71,72,73,74,75,76,77,78,79,80,81,82,83,84,85,86,87,88,89,90,97,98,99,100,101,102,103,104,105,106,107,108,109,110,111,112,113,114,115,116,117,118,119,120,121,122,48,49,50,51,52,53,54,55,56,57,95,46,58,43,45,33]
theorem name_in (l:Str):hasS (addS commonS [33]) l=inS l nameL:=by
 apply hasS_in
 intro b
 have e:nameL=upperL++(lowerL++(digitL++(punctL++[33]))):=rfl
 simp only [commonS,addS_at,noneS_at,e,List.contains_eq_any_beq,List.any_append,Bool.false_or,Bool.or_assoc]
theorem validS_in (l:Str):validS l=(!l.isEmpty && decide (l.length≤32) && inS l nameL && !(l == [46]) && !(l == [46,46])):=by
 rw [validS,name_in,Bool.not_or]
 cases (!l.isEmpty) <;> cases decide (l.length≤32) <;> cases inS l nameL <;> cases (l == [46]) <;> cases (l == [46,46]) <;> rfl
set_option maxHeartbeats 400000 in
theorem RPrintable_any (s:ByteArray) (w:World) (hs:s.size≤9223372036854775807) :
 Calls Tryz.prog 99 #[.string s] w fun e w'=>e=.returned (.bool (printS (L s)))∧w=w':=by
 go_enter Tryz.func99,Tryz.ntmps99
 go_wp2
 go_loop [3] (fun i=>∃ k:Nat,k≤s.size∧i=.int .i64 k∧Hid (printS ((L s).take k)=true)) (fun i=>s.size - (intOf i).toNat)
 case atStart=>exact ⟨0,Nat.zero_le _,rfl,rfl⟩
 case round =>
  obtain ⟨k,hk,rfl,hp⟩:=hrel
  go_wp2
  case roundEnd =>
   go_round
   case rel=>exact ⟨k+1,by omega,by go_num,by
    show printS _=true
    rw [take_snoc s k (by omega),printS_snoc,hp.out]
    simp [pr];omega⟩
   case measure=>simp [intOf];omega
  · go_ret
    exact ⟨ret_bool (by rw [printS_no s (by assumption) rfl (by simp [pr];omega)]),rfl⟩
  · go_ret
    exact ⟨ret_bool (by rw [printS_no s (by assumption) rfl (by simp [pr];omega)]),rfl⟩
  · go_ret
    refine ⟨ret_bool ?_,rfl⟩
    have h:=hp.out
    rw [take_all s k (by assumption)] at h
    rw [h]
set_option maxHeartbeats 400000 in
theorem RText_any (s:ByteArray) (w:World) (hs:s.size≤9223372036854775807) :
 Calls Tryz.prog 77 #[.string s] w fun e w'=>e=.returned (.bool (textS (L s)))∧w=w':=by
 cases hp:printS (L s)
 all_goals
  have HC:=RPrintable_any s w hs
  rw [hp] at HC
  have Hp:=Lib.hid hp
  clear hp
  go_enter Tryz.func77,Tryz.ntmps77
  go_wp2_with (go_at_call 99;refine HC.mono ?_;rintro e w' ⟨rfl,rfl⟩)
  go_ret
  exact ⟨ret_bool (by rw [textS,Hp.out,len_L];simp <;> omega),rfl⟩
set_option maxHeartbeats 400000 in
theorem RValid_any (s:ByteArray) (w:World) (hs:s.size≤9223372036854775807) :
 Calls Tryz.prog 76 #[.string s] w fun e w'=>e=.returned (.bool (validS (L s)))∧w=w':=by
 have HC:=in_any s (bs nameL) w hs
 rw [L_bs] at HC
 have HV:=Lib.hid (validS_in (L s))
 cases hp:inS (L s) nameL
 all_goals
  rw [hp] at HC
  have Hp:=Lib.hid hp
  clear hp
  go_enter Tryz.func76,Tryz.ntmps76
  go_wp2_with (go_at_call 98;refine HC.mono ?_;rintro e w' ⟨rfl,rfl⟩)
  all_goals
   go_ret
   refine ⟨ret_bool ?_,rfl⟩
   rw [HV.out,Hp.out,len_L]
   clear HV HC Hp
   simp only [tl] at *
   generalize L s=l at *
   first | (have hz:s.size≤32:=by omega) | (have hz:¬ s.size≤32:=by omega) | have hz:=True.intro
   cases hb1:(l == [46]) <;> cases hb2:(l == [46,46]) <;> cases hb3:l.isEmpty <;> simp_all
end
section
open Go.RowKit
def OutIn (w:World) (l:List At) (v:Value) (w':World):Prop:=w'.ownsRow w.heap.size 104 2 v l.length (cellsOf encAt l)∧Below w.heap.size w w'
theorem encAt_one (x:At):∀ u∈encAt x,u.oneCell'=true:=encAt_1 x
def catF (ds:List (Ls At)):List At:=ds.flatMap (·.l)
theorem catF_take_succ {ds:List (Ls At)} {k:Nat} (hk:k<ds.length):catF (ds.take (k+1))=catF (ds.take k)++ds[k].l:=by
 unfold catF;rw [List.take_succ_eq_append_getElem hk,List.flatMap_append];simp only [List.flatMap_cons,List.flatMap_nil,List.append_nil]
theorem catF_len (ds:List (Ls At)):(catF ds).length≤bulk ds:=by
 induction ds with
 | nil=>exact Nat.zero_le _
 | cons d r ih =>
   rw [bulk_cons]
   have:catF (d :: r)=d.l++catF r:=by simp [catF]
   rw [this,List.length_append];omega
theorem catF_take_le (ds:List (Ls At)) (k:Nat):(catF (ds.take k)).length≤(catF ds).length:=by
 have:catF ds=catF (ds.take k)++catF (ds.drop k):=by
  unfold catF;rw [←List.flatMap_append,List.take_append_drop]
 rw [this,List.length_append];omega
def NilRow (w:World) (e:Ending) (w':World):Prop:=∃ v,e=.returned v∧w'.ownsRow w.heap.size 104 2 v 0 []∧Below w.heap.size w w'
set_option maxHeartbeats 1000000 in
theorem Grow_nil (n:Nat) (hn:n≤1000000) (w:World) :
 Calls Tryz.prog 93 #[.slice none 0 0,.int .i64 n] w (NilRow w):=by
 rcases Nat.eq_zero_or_pos n with rfl | h0
 · go_enter Tryz.func93,Tryz.ntmps93
   go_wp2
   go_ret
   exact ⟨_,rfl,World.ownsRow_nil _ _ _ _,Below.refl _ _⟩
 · obtain ⟨i0,hi0,hz0,hz1,hz2⟩:=info_parts attrInfo
   have hold:(Builtin.firstCells i0.size 0 (.slice none 0 0)).run Tryz.prog w.drew=.ok ([]:List Value).toArray w.drew:=run_firstCells_none (w:=w.drew) i0.size 0 0 0
   have hrz:∀ ty,(Builtin.append_ #[31,3] ty #[.slice none 0 0,.int .i64 (n:Int)]).run Tryz.prog w=.ok (.slice (some ⟨w.heap.size,0,none⟩) n (grownCap w n 0 104)) (w.drew.alloc (.cells (([]:List Value).toArray++Builtin.zeroCells (Value.agg #[.string ⟨#[]⟩,.string ⟨#[]⟩]).cells n++Builtin.zeroCells (Value.agg #[.string ⟨#[]⟩,.string ⟨#[]⟩]).cells (grownCap w n 0 104 - n)) 104)):=fun ty=>by
    have h:=Lib.run_append_grow_zeros w 31 3 ty 104 i0 _ .i64 .i64 Tryz.underlying31 Tryz.underlying3 hi0 hz0 none 0 0 [] hold n h0 (by rw [hz1];omega) (by omega) (by omega) (by rw [hz2];omega) (by rw [hz2,Nat.zero_add];exact growslice_fits h0 (by omega))
    rw [Nat.zero_add] at h
    exact h
   have hGn:n≤grownCap w n 0 104:=grownCap_ge w _ _ _
   have hG63:grownCap w n 0 104≤maxLen:=grownCap_le_maxLen w n 0 104 (by unfold maxLen;omega)
   generalize grownCap w n 0 104=G at *
   have h1:¬ ((n:Int)<0):=by omega
   have h4:(n:Int) > 0:=by omega
   have hG64:G≤9223372036854775807:=by unfold maxLen at hG63;omega
   clear hold hi0 hz0 hz1 hz2
   go_enter Tryz.func93,Tryz.ntmps93
   go_wp2_with (at_builtin;refine Lib.wpList_append_run _ rfl _ _ _ _ rfl _ _ rfl rfl _ _ (hrz _) ?_)
   all_goals
    go_ret
    exact ⟨_,rfl,⟨rfl,Or.inr ⟨w.heap.size,G,_,rfl,Nat.le_refl _,heap_alloc_new w _,Nat.zero_le _,hG63,by simp [size_zeroCells];omega,by simp⟩⟩,(below_alloc w _).drew⟩
set_option maxHeartbeats 2000000 in
theorem Concat_any (A:Option Addr) (c:Nat) (ds:List (Ls At)) (w:World) (h:DirsAt w A ds) (hb:bulk ds≤100000) :
 Calls Tryz.prog 74 #[.slice A ds.length c] w fun e w'=>∃ v,e=.returned v∧OutIn w (catF ds) v w':=by
 have H:=Lib.hid h
 have hM:ds.length≤100000:=Nat.le_trans (bulk_len ds) hb
 have hcl:=Nat.le_trans (catF_len ds) hb
 have HT:=Lib.hid (fun k=>Nat.le_trans (catF_take_le ds k) hcl)
 have HFull:Hid (catF (ds.take ds.length)=catF ds):=Lib.hid (by rw [List.take_length])
 clear h hb
 generalize hMM:ds.length=M at *
 have HM:=Lib.hid hMM
 clear hMM
 obtain ⟨i0,hi0,hz0,hz1,hz2⟩:=info_parts attrInfo
 have Hi0:=Lib.hid hi0
 have Hz0:=Lib.hid hz0
 have Hz1:=Lib.hid hz1
 have Hz2:=Lib.hid hz2
 clear hi0 hz0 hz1 hz2
 go_enter Tryz.func74,Tryz.ntmps74
 go_wp2
 go_loopg [3,5,11] (M+1) (fun gk s3 _ s11 wr=>∃ (k b:Nat),s3=.int .i64 b∧s11=.int .i64 k∧k+gk=M+1∧k≤M∧b≤100000∧Hid ((catF (ds.take k)).length=b)∧Hid (Below w.heap.size w wr))
 case atStart=>exact ⟨0,0,rfl,rfl,by omega,Nat.zero_le _,by omega,(by exact rfl),Below.refl _ _⟩
 case round =>
  obtain ⟨k,b,rfl,rfl,hkg,hkM,hb1,hbe,hB⟩:=hrel
  by_cases hlt:k<M
  · have hltI:(k:Int)<(M:Int):=by omega
    have hk':k<ds.length:=by rw [HM.out];exact hlt
    obtain ⟨g,off,rfl,hg,hcell,hrow⟩:=H.out.dir hk'
    have hT1:=HT.out (k+1)
    have hn2:(catF (ds.take (k+1))).length=(catF (ds.take k)).length+ds[k].l.length:=by rw [catF_take_succ hk',List.length_append]
    rw [hbe.out] at hn2
    rw [hn2] at hT1
    have HN2:=Lib.hid hn2
    have hc0:=hcell wr hB.out
    clear hcell hrow hn2
    generalize ds[k]=d at *
    obtain ⟨dA,dc,dl⟩:=d
    dsimp only at *
    generalize dl.length=N at *
    have hN0:¬ ((b:Int)+(N:Int)<0):=by omega
    go_wp2
    go_roundg (gk - 1)
    case measure=>omega
    case rel=>exact ⟨k+1,b+N,by go_num,by go_num,by omega,by omega,hT1,HN2.out,hB.out⟩
  · obtain rfl:k=M:=by omega
    have hbb:=hbe.out
    rw [HFull.out] at hbb
    have HBb:=Lib.hid hbb
    clear hbb hbe
    have hN1:b≤1000000:=by omega
    have HG:=Lib.hid (fun n hn=>Grow_nil n hn wr)
    go_wp2_with (go_at_call 93;refine (HG.out _ hN1).mono ?_;rintro e w2 ⟨v,rfl,hown,hb2⟩;have HO:=Lib.hid hown;have HB2:=Lib.hid hb2;clear hown hb2)
    have HBw:=Lib.hid (bt hB.out HB2.out)
    have hws:=hB.out.size
    obtain ⟨w2o,rfl⟩:∃ w2o:World,w2o=w2:=⟨_,rfl⟩
    obtain ⟨wo,rfl⟩:∃ wo:World,wo=wr:=⟨_,rfl⟩
    go_loopg [6,8,27] (k+1) (fun gk s6 _ s27 wr=>∃ (m:Nat) (u:Value),u=s6∧s27=.int .i64 m∧m+gk=k+1∧m≤k∧Hid (OutIn w (catF (ds.take m)) u wr))
    case atStart=>exact ⟨0,_,rfl,rfl,by omega,Nat.zero_le _,⟨by rw [List.take_zero];exact own_base HO.out hws,HBw.out⟩⟩
    case round =>
     obtain ⟨m,u,rfl,rfl,hmg,hmk,hO⟩:=hrel
     have hT2:=HT.out m
     by_cases hltm:m<k
     · have hltI:(m:Int)<(k:Int):=by omega
       have hk':m<ds.length:=by rw [HM.out];exact hltm
       obtain ⟨g,off,rfl,hg,hcell,hrow⟩:=H.out.dir hk'
       have HN:=Lib.hid (catF_take_succ hk')
       have hT3:=HT.out (m+1)
       have hn2:(catF (ds.take (m+1))).length=(catF (ds.take m)).length+ds[m].l.length:=by rw [HN.out,List.length_append]
       have hc0:=hcell wr hO.out.2
       have HR:=Lib.hid (hrow wr hO.out.2)
       have hO':=hO
       have hwx:w.heap.size≤wr.heap.size:=hO.out.2.size
       clear hcell hrow hO
       obtain ⟨b1,hb1⟩:∃ b1,catF (ds.take (m+1))=b1:=⟨_,rfl⟩
       rw [hb1] at HN hT3 hn2
       have HB1:=Lib.hid hb1
       clear hb1
       generalize catF (ds.take m)=b0 at *
       generalize ds[m]=d at *
       obtain ⟨dA,dc,dl⟩:=d
       dsimp only at *
       have HO':=Lib.hid hO'.out.1
       have HOb:=Lib.hid hO'.out.2
       clear hO'
       rw [hn2] at hT3
       clear hn2
       generalize hdl:dl.length=N at *
       generalize hbl:b0.length=N0 at *
       have HDl:=Lib.hid hdl
       have HBl:=Lib.hid hbl
       clear hdl hbl
       go_wp2_with (at_builtin;go_loud (refine wpList_append_row rfl (.tmp 31) (.tmp 32) 31 rfl w.heap.size 104 i0 _ 2 32 Tryz.underlying31 Hi0.out Hz0.out Hz1.out Hz2.out rfl (by omega) u N0 (cellsOf encAt b0) (by rfl) HO'.out dA N dc _ (cellsOf encAt dl) (by rfl) HR.out (fun y hy=>by obtain ⟨q,_,hq⟩:=List.mem_flatMap.1 hy;exact encAt_one _ _ hq) (by unfold maxLen;omega) (by omega) (by omega) ?_;intro v4 w4 hown4 hgrow4 hloc4 hnn4))
       have HO4:Hid (OutIn w b1 v4 w4):=Lib.hid ⟨by rw [HN.out,List.length_append,cellsOf_append,HBl.out,HDl.out];exact hown4,HOb.out.grown hgrow4 (by omega) (fun j e=>(HO'.out.lt j e).1)⟩
       clear hown4 hgrow4 hloc4 hnn4
       go_wp2
       go_roundg (gk - 1)
       case measure=>omega
       case rel=>exact ⟨m+1,_,rfl,by go_num,by omega,by omega,by rw [HB1.out];exact HO4.out⟩
     · obtain rfl:m=k:=by omega
       rw [HFull.out] at hO
       go_wp2
       go_ret
       exact ⟨_,rfl,hO.out⟩
end
section
open Go.RowKit Go.Maps
abbrev DW:=DataW Unit
end
section
def partsC (c:UInt8) (s:ByteArray):List ByteArray:=Lib.splitB ⟨#[c]⟩ 0 (Lib.countB s ⟨#[c]⟩) s
def partS:Nat→Bool:=addS commonS [64,35,61,37]
def compB (p:Str):Bool := !p.isEmpty && !(p == [46] || p == [46,46]) && hasS partS p
def linkB (s:ByteArray):Bool:=decide (s.size≤256) && (partsC 47 s).all fun p=>compB (L p)
def ifaceB (s:Str):Bool:=validS s && decide (s.length≤15) && s.all fun b => !(b == 58 || b == 33)
def turnS (s:Str):Str:=s.map fun b=>if addS partS [47] b.toNat then b else 95
def keepB (p:Str):Bool := !p.isEmpty && !(p == [46])
def cleanT (s:ByteArray):ByteArray:=bs (Lib.join (((partsC 47 (bs (turnS (L s)))).map L).filter keepB) [47])
def cleanS (s:ByteArray):Option ByteArray:=if linkB (cleanT s) then some (cleanT s) else none
def wordL (s:ByteArray):List ByteArray:=Lib.goFieldsP (fun n=>n == 32) s
def octB (s:Str):Bool:=decide (1≤s.length) && decide (s.length≤4) && s.all fun b=>decide (48≤b.toNat) && decide (b.toNat≤55)
def octV (s:Str):Int:=s.foldl (fun n b=>8*n+((b.toNat:Int) - 48)) 0
def prioV (s:Str):Option Int:=match Lib.atoiAll s with
 | .ok v=>if Lib.itoa v == s && decide (-1000≤v) && decide (v≤1000) then some v else none
 | _=>none
def fullB (v:ByteArray):Bool := !(L v).isEmpty && textS (L v)
def tagS (d:Dr) (op:Int) (v:ByteArray):Dr:=if validS (L v) then (if op=3 then { d with tags:=[L v] } else if op=4 then { d with tags:=putM d.tags (L v) 16 } else if op=5 then { d with tags:=dropL d.tags (L v) } else d) else d
def linkW (op:Int) (l:List Str) (w:ByteArray):List Str:=match cleanS w with
 | some s=>if op=5 then dropL l (L s) else putM l (L s) 16
 | none=>l
def linkS (d:Dr) (op:Int) (v:ByteArray):Dr:={ d with links:=(wordL v).foldl (linkW op) (if op=3∨op=6 then [] else d.links) }
def runS (d:Dr) (op:Int) (v:ByteArray):Dr :=
 let l:=if op=4 then d.run else []
 { d with run:=if fullB v && decide (l.length<16) then l++[L v] else l }
abbrev KeyS (t:Tm):Prop:=t.key=2∨t.key=6∨t.key=7∨t.key=12∨t.key=16∨t.key=23∨t.key=24
def asgS (d:Dr) (t:Tm) (v:ByteArray):Dr :=
 if t.key=6 then (if t.op=4 then moreS d t.name v else envS d t.name v)
 else if t.key=7 then tagS d t.op v
 else if t.key=15 then (if ifaceB (L v) then { d with nam:=v } else d)
 else if t.key=16 then linkS d t.op v
 else if t.key=17 then (if validS (L v) then { d with own:=v } else d)
 else if t.key=18 then (if validS (L v) then { d with grp:=v } else d)
 else if t.key=19 then (if octB (L v) then { d with mode:=octV (L v) } else d)
 else if t.key=20 then runS d t.op v
 else if t.key=21 then (if fullB v then { d with load:=putM d.load (L v) 16 } else d)
 else if t.key=22 then (match prioV (L v) with | some n=>{ d with prio:=n } | none=>d)
 else d
def keyTm (t:Tm):Tm:=⟨t.key,t.name,0,⟨#[]⟩⟩
def closedB (d:Dr) (t:Tm):Bool:=d.closed.any fun c=>c.key == t.key && L c.name == L t.name
def applyS (d:Dr) (t:Tm) (v:ByteArray):Dr :=
 if closedB d t then d else if t.op=6 then { asgS d t v with closed:=(asgS d t v).closed++[keyTm t] } else asgS d t v
def importS (d:Dr) (l:List At):Dr:=l.foldl (fun d p=>if keyS (L p.name) && !(L p.val).isEmpty then envS d p.name p.val else d) d
def rootB:ByteArray:=⟨#[114,111,111,116]⟩
def beginS (base:List At):Dr:=⟨base,[],[],[],[],⟨#[]⟩,0,rootB,rootB,384,⟨#[]⟩,0,0,[]⟩
end
section
open Go.RowKit
theorem findF_hit {l:List At} {n:Str} {k:Nat} {x:At} (hx:l[k]? = some x) (hno:∀ (j:Nat) (y:At),j<k→l[j]? = some y→(L y.name == n)=false) (hyes:(L x.name == n)=true):findF l n=some x:=by
 induction l generalizing k with
 | nil=>simp at hx
 | cons y l ih =>
   cases k with
   | zero =>
     simp at hx
     subst hx
     simp only [findF,nm,List.find?_cons,hyes]
   | succ k =>
     have h0:=hno 0 y (by omega) (by simp)
     have:=ih (k:=k) (by simpa using hx) (fun j z hj hz=>hno (j+1) z (by omega) (by simpa using hz))
     simp only [findF,nm,List.find?_cons,h0] at this ⊢
     exact this
theorem findF_miss {l:List At} {n:Str} (hno:∀ (j:Nat) (y:At),l[j]? = some y→(L y.name == n)=false):findF l n=none:=by
 unfold findF
 rw [List.find?_eq_none]
 intro x hx
 obtain ⟨j,hj⟩:=List.getElem?_of_mem hx
 rw [show (nm x == n)=false from hno j x hj];simp
end
section
open Go.RowKit
def getU:Option At→Value
 | some x=>.tuple #[.string x.val,.bool true]
 | none=>.tuple #[.string ⟨#[]⟩,.bool false]
def GetPost (o:Option At) (w:World) (e:Ending) (w':World):Prop:=e=.returned (getU o)∧Below w.heap.size w w'
set_option maxHeartbeats 1000000 in
theorem PGet_any (A:Option Addr) (c:Nat) (l:List At) (nm:ByteArray) (w:World) (h:RowAt w w.heap.size A 2 l.length (cellsOf encAt l)) (hl:l.length≤4611686018427387904) :
 Calls Tryz.prog 27 #[.slice A l.length c,.string nm] w (GetPost (findF l (L nm)) w):=by
 have H:=Lib.hid h
 clear h
 generalize hN:l.length=N at hl ⊢
 have HN:=Lib.hid hN
 clear hN
 go_enter Tryz.func27,Tryz.ntmps27
 go_wp2
 go_loopw [10] (fun i wr=>∃ k:Nat,k≤N∧i=.int .i64 k∧Hid (∀ (j:Nat) (y:At),j<k→l[j]? = some y→(L y.name == L nm)=false)∧Hid (Below w.heap.size w wr)) (fun i _=>N - (intOf i).toNat)
 case atStart=>exact ⟨0,Nat.zero_le _,rfl,fun j y hj=>absurd hj (by omega),Below.refl _ _⟩
 case round =>
  obtain ⟨k,hk,rfl,hp,hB⟩:=hrel
  by_cases hlt:k<N
  · have hlt':k<l.length:=by rw [HN.out];exact hlt
    have hltI:(k:Int)<(N:Int):=by omega
    obtain ⟨ba,off,rfl,hBa,hc⟩:=H.out.cell encAt_len hlt'
    obtain ⟨x,hx⟩:∃ x,l[k]? = some x:=⟨_,List.getElem?_eq_getElem hlt'⟩
    have c0:wr.cell? ⟨ba,off+k*2,none⟩=some (.string x.name):=(hB.out.cell (p:=⟨ba,off+k*2,none⟩) hBa).trans (hc k x hx 0 _ rfl)
    have c1:wr.cell? ⟨ba,off+k*2+1,none⟩=some (.string x.val):=(hB.out.cell (p:=⟨ba,off+k*2+1,none⟩) hBa).trans (hc k x hx 1 _ rfl)
    have HX:=Lib.hid hx
    have HB2:=Lib.hid (bt hB.out (below_alloc wr (.cells #[.string x.name,.string x.val] 104)))
    clear hx hc hlt'
    cases hq:(x.name.toList == nm.toList)
    · go_wp2
      go_roundw
      case rel =>
       refine ⟨k+1,by omega,by go_num,fun j y hj hy=>?_,HB2.out⟩
       rcases (by omega:j=k∨j<k) with e | e
       · subst e
         rw [HX.out] at hy
         injection hy with hy
         rw [←hy,←tl,←tl]
         exact hq
       · exact hp.out j y e hy
      case measure=>simp [intOf];omega
    · have e1:=findF_hit HX.out hp.out (by rw [←tl,←tl];exact hq)
      have E1:=Lib.hid e1
      clear e1
      go_wp2
      go_ret2
      exact ⟨by rw [E1.out];rfl,HB2.out⟩
  · have e1:=findF_miss (l:=l) (n:=L nm) (fun j y hy=>hp.out j y (by have:=(List.getElem?_eq_some_iff.1 hy).1;rw [HN.out] at this;omega) hy)
    have E1:=Lib.hid e1
    clear e1
    go_wp2
    go_ret2
    exact ⟨by rw [E1.out];rfl,hB.out⟩
end
section
def posS (l:List Str) (s:Str):Nat:=(l.takeWhile fun x=>decide (x<s)).length
theorem posS_le (l:List Str) (s:Str):posS l s≤l.length:=List.IsPrefix.length_le (List.takeWhile_prefix _)
theorem posS_lt {l:List Str} {s:Str} {t:Nat} (h:t<posS l s):∃ h':t<l.length,l[t]<s:=by
 have hp:l.takeWhile (fun x=>decide (x<s)) <+: l:=List.takeWhile_prefix _
 have h1:t<l.length:=Nat.lt_of_lt_of_le h (posS_le l s)
 refine ⟨h1,?_⟩
 have h2:=List.IsPrefix.getElem hp (i:=t) h
 rw [←h2]
 have:=List.all_takeWhile (p:=fun x=>decide (x<s)) (l:=l)
 have:=List.all_eq_true.1 this _ (List.getElem_mem (l:=l.takeWhile fun x=>decide (x<s)) (n:=t) h)
 simpa using this
theorem lt_irr (s:Str):¬ s<s:=List.lt_irrefl s
theorem posS_ge:∀ {l:List Str},l.Pairwise (· < ·)→∀ {s:Str} {t:Nat},posS l s≤t→∀ h:t<l.length,¬ l[t]<s
 | [],_,_,_,_,h=>by cases h
 | x :: r,hs,s,t,hk,h=>by
   obtain ⟨h1,h2⟩:=List.pairwise_cons.1 hs
   by_cases hx:x<s
   · have e:posS (x :: r) s=posS r s+1:=by unfold posS;rw [List.takeWhile_cons,if_pos (decide_eq_true hx)];rfl
     cases t with
     | zero=>omega
     | succ t=>exact posS_ge h2 (by omega) (by simpa using h)
   · cases t with
     | zero=>exact hx
     | succ t =>
       intro hlt
       have hm:r[t]'(by simpa using h)∈r:=List.getElem_mem _
       exact hx (List.lt_trans (h1 _ hm) hlt)
theorem putS_at:∀ {l:List Str},l.Pairwise (· < ·)→∀ {s:Str},s ∉ l→putS l s=l.take (posS l s)++s :: l.drop (posS l s)
 | [],_,_,_=>rfl
 | x :: r,hs,s,hn=>by
   obtain ⟨h1,h2⟩:=List.pairwise_cons.1 hs
   rw [putS]
   by_cases hx:x<s
   · have e:posS (x :: r) s=posS r s+1:=by unfold posS;rw [List.takeWhile_cons,if_pos (decide_eq_true hx)];rfl
     rw [if_pos hx,e,List.take_succ_cons,List.drop_succ_cons,List.cons_append,←putS_at h2 (fun hm=>hn (List.mem_cons_of_mem _ hm))]
   · have e:posS (x :: r) s=0:=by unfold posS;rw [List.takeWhile_cons,if_neg (by simpa using hx)];rfl
     rw [if_neg hx,if_neg (fun e2=>hn (by rw [e2];exact List.mem_cons_self)),e]
     rfl
theorem mem_posS {l:List Str} (hs:l.Pairwise (· < ·)) (s:Str):s∈l↔∃ h:posS l s<l.length,l[posS l s]=s:=by
 constructor
 · intro hm
   obtain ⟨t,ht,e⟩:=List.getElem_of_mem hm
   have h1:posS l s≤t:=by
    rcases Nat.lt_or_ge t (posS l s) with k | k
    · obtain ⟨_,k2⟩:=posS_lt k
      rw [e] at k2
      exact absurd k2 (lt_irr s)
    · exact k
   have h2:t≤posS l s:=by
    rcases Nat.lt_or_ge (posS l s) t with k | k
    · have h3:=posS_ge hs (Nat.le_refl (posS l s)) (by omega)
      have h4:=List.pairwise_iff_getElem.1 hs (posS l s) t (by omega) ht k
      rw [e] at h4
      exact absurd h4 h3
    · exact k
   obtain rfl:t=posS l s:=by omega
   exact ⟨ht,e⟩
 · rintro ⟨h,e⟩
   rw [←e]
   exact List.getElem_mem _
end
section
open Go.RowKit
def iV (l:List Int):List Value:=l.map (Value.int .i64)
theorem iV_get {l:List Int} {j:Nat} (h:j<l.length):(iV l)[j]? = some (.int .i64 l[j]):=by
 unfold iV
 rw [List.getElem?_map,List.getElem?_eq_getElem h];rfl
theorem intInfo:(Tryz.prog.info? 3).map (fun i=>(i.zero,i.size,i.bytes))=some (some (.int .i64 0),1,8):=by kernel_rfl
abbrev IRow (w:World) (B:Nat) (A:Option Addr) (l:List Int):Prop:=RowAt w B A 1 l.length (iV l)
theorem IRow.cell {w wr:World} {B:Nat} {A:Option Addr} {l:List Int} (h:IRow w B A l) (hb:Below B w wr) {k:Nat} (hk:k<l.length):∃ ba off,A=some ⟨ba,off,none⟩∧wr.cell? ⟨ba,off+k,none⟩=some (.int .i64 l[k]):=by
 obtain ⟨ba,off,e,hB,hc⟩:=h.at_ (by omega)
 exact ⟨ba,off,e,(hb.cell (p:=⟨ba,off+k,none⟩) hB).trans (hc k _ (iV_get hk))⟩
set_option maxHeartbeats 1000000 in
theorem SameInts_yes (A A':Option Addr) (c c':Nat) (l:List Int) (w:World) (hn:l.length≤4000000) (h:IRow w w.heap.size A l) (h':IRow w w.heap.size A' l) :
 Calls Tryz.prog 28 #[.slice A l.length c,.slice A' l.length c'] w fun e w'=>e=.returned (.bool true)∧Below w.heap.size w w':=by
 have H:=Lib.hid h
 have H':=Lib.hid h'
 clear h h'
 generalize hN:l.length=N at *
 have HN:=Lib.hid hN
 clear hN
 go_enter Tryz.func28,Tryz.ntmps28
 go_wp2
 go_loopw [5] (fun i wr=>∃ k:Nat,k≤N∧i=.int .i64 k∧Hid (Below w.heap.size w wr)) (fun i _=>N - (intOf i).toNat)
 case atStart=>exact ⟨0,Nat.zero_le _,rfl,Below.refl _ _⟩
 case round =>
  obtain ⟨k,hk,rfl,hB⟩:=hrel
  by_cases hlt:k<N
  · have hk':k<l.length:=by rw [HN.out];exact hlt
    have hr:=H.out
    have hr':=H'.out
    obtain ⟨ba,off,rfl,c0⟩:=hr.cell hB.out hk'
    obtain ⟨ba',off',rfl,d0⟩:=hr'.cell hB.out hk'
    have hltI:(k:Int)<(N:Int):=by omega
    generalize l[k]=x at *
    clear hr hr' hk'
    go_wp2
    go_quiet (fail)
    go_wp2
    go_roundw
    case rel=>exact ⟨k+1,by omega,by go_num,below_drewN hB.out _⟩
    case measure=>simp [intOf];omega
  · obtain rfl:k=N:=by omega
    go_wp2
    go_ret
    exact ⟨rfl,hB.out⟩
end
end Go.Proofs.YtobcmlmbblgcdaaGreatDoor

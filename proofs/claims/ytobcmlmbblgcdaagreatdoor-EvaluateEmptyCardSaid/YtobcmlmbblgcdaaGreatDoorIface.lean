/-
  Contract of the program's Interface.
-/
import Derived.Test.YtobcmlmbblgcdaaGreatDoorG05
import Derived.Test.YtobcmlmbblgcdaaGreatDoorShelf
import Derived.Lib.IndexAny
namespace Go.Proofs.YtobcmlmbblgcdaaGreatDoor
open Go.RowKit
theorem any_cons (b:UInt8) (l c:Str):Lib.containsAny (b :: l) c=(c.contains b || Lib.containsAny l c):=by
 unfold Lib.containsAny
 rw [Lib.indexAny]
 have:=Lib.indexAny_ge c l
 by_cases h:c.contains b=true
 · rw [if_pos h,h];simp
 · rw [if_neg h]
   have hb:c.contains b=false:=by simpa using h
   rw [hb,Bool.false_or]
   split
   · rename_i h1
     have h1:Lib.indexAny l c = -1:=by simpa using h1
     rw [h1]
   · rename_i h1
     have h1:¬ Lib.indexAny l c = -1:=by simpa using h1
     rw [decide_eq_decide];omega
end Go.Proofs.YtobcmlmbblgcdaaGreatDoor

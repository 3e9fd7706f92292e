/-
  Contract of the program's Ancestor, where its device is found.
  Contract of the program's Ancestor, whole.
-/
import Derived.Test.YtobcmlmbblgcdaaGreatDoorG31
namespace Go.Proofs.YtobcmlmbblgcdaaGreatDoor
section
open Go.RowKit Go.Shelf
theorem bs_dv2 (n:Nat) (parts:Array (Nat × Value)):Instr.buildSlice 28 n parts=bsG 28 n parts:=by unfold bsG;rfl
attribute [local go_sem ↓] bs_dv2 ap_g
end
section
open Go.RowKit Go.Shelf
end
end Go.Proofs.YtobcmlmbblgcdaaGreatDoor

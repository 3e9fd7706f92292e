/-
  strconv's ParseUint in base 8 at 12 bits.
  Contract of the editor's mode.
-/
import Derived.Test.YtobcmlmbblgcdaaGreatDoorG22
import Derived.Lib.ConvBytes
import Derived.Lib.ParseIntBMem
import Derived.Laws.Strings3
import Derived.Laws.Closers25
import Derived.Laws.Closers25b
import Derived.BigCall
import Derived.BigGuard
namespace Go.Proofs.YtobcmlmbblgcdaaGreatDoor
section
open Go.RowKit Go.Shelf
end
section
open Go.RowKit Go.Shelf
end
end Go.Proofs.YtobcmlmbblgcdaaGreatDoor

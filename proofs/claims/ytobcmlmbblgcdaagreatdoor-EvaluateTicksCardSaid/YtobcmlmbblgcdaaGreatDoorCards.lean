/-
  DERIVED. GIVEN WITH THE SEED: THE CARDS: each row of YtobcmlmbblgcdaaGreatDoorRows.lean that lists a variable, with what it lists TIED to the program's text (the seventh form; the later family's looks); each row that meets fmt, with fmt's text TOLD by the authors' own Lean function (tested against real Go, not proved from fmt's source: count such statements apart). THE CARD IS WHAT COUNTS. Prove the row's statement (the work); the ties are given (YtobcmlmbblgcdaaGreatDoorTie.lean); close each card by the builder's one call (the guide's Derived/Test/ToyasCard.lean, 'card_holds'). Laid BY PROGRAM, IN A SANDBOX (cutbox-door.mjs). By AI agents, Wed Nov 11 2026. No macro, syntax, notation, axiom, sorry.
-/
import Derived.Test.YtobcmlmbblgcdaaGreatDoorRows
import GoSem.ClaimSeven
namespace Go.Proofs.YtobcmlmbblgcdaaGreatDoor
namespace Rows

/-- THE TIED CARD OF 'coldpluglaw15.EvaluateTicks'. -/
def evaluateTicksCard : Claim7 := { stood := { row := evaluateTicksRow, standIns := [], harness := (true, "aab59c60bb4426b54df50022575b36f603cd2959a669b6aa125ad9362e4a5a33"), looks := true }, kinds := [], alts := [], laidByText := true, laidKinds := [.data, .data, .data, .data, .sentinel, .sentinel, .pinned, .pinned], laidTests := true, laidLooks := .later }
def EvaluateTicksCardSaid : Prop := Claim7.holds Tryz.pinned (.plain (OpenSpec.ofChange evaluateTicksSpec)) evaluateTicksCard

/-- THE TIED CARD OF 'coldpluglaw15.EvaluateEmpty'. -/
def evaluateEmptyCard : Claim7 := { stood := { row := evaluateEmptyRow, standIns := [], harness := (true, "aab59c60bb4426b54df50022575b36f603cd2959a669b6aa125ad9362e4a5a33"), looks := true }, kinds := [], alts := [], laidByText := true, laidKinds := [.data, .data, .data, .data, .sentinel, .sentinel, .pinned, .pinned], laidTests := true, laidLooks := .later }
def EvaluateEmptyCardSaid : Prop := Claim7.holds Tryz.pinned (.plain (OpenSpec.ofChange evaluateEmptySpec)) evaluateEmptyCard

/-- THE SECOND FORM's CARD OF 'coldpluglaw15.EvaluateTicks'. -/
def evaluateTicksUptoCard : Claim7 := { stood := { row := evaluateTicksUptoRow, standIns := [], harness := (true, "aab59c60bb4426b54df50022575b36f603cd2959a669b6aa125ad9362e4a5a33"), looks := true }, kinds := [], alts := [], laidByText := true, laidKinds := [.data, .data, .data, .data, .sentinel, .sentinel, .pinned, .pinned], laidTests := true, laidLooks := .later }
def EvaluateTicksUptoCardSaid : Prop := Claim7.holds Tryz.pinned (.plain (OpenSpec.upto evaluateTicksSpec)) evaluateTicksUptoCard

/-- THE SECOND FORM's CARD OF 'coldpluglaw15.EvaluateEmpty'. -/
def evaluateEmptyUptoCard : Claim7 := { stood := { row := evaluateEmptyUptoRow, standIns := [], harness := (true, "aab59c60bb4426b54df50022575b36f603cd2959a669b6aa125ad9362e4a5a33"), looks := true }, kinds := [], alts := [], laidByText := true, laidKinds := [.data, .data, .data, .data, .sentinel, .sentinel, .pinned, .pinned], laidTests := true, laidLooks := .later }
def EvaluateEmptyUptoCardSaid : Prop := Claim7.holds Tryz.pinned (.plain (OpenSpec.upto evaluateEmptySpec)) evaluateEmptyUptoCard
end Rows
end Go.Proofs.YtobcmlmbblgcdaaGreatDoor

/-
  DERIVED. GIVEN WITH THE SEED: THE CARDS: each row of YtecbmndgpepkcaaGreatDoorRows.lean that lists a variable, with what it lists TIED to the program's text (the seventh form; the later family's looks); each row that meets fmt, with fmt's text TOLD by the authors' own Lean function (tested against real Go, not proved from fmt's source: count such statements apart). THE CARD IS WHAT COUNTS. Prove the row's statement (the work); the ties are given (YtecbmndgpepkcaaGreatDoorTie.lean); close each card by the builder's one call (the guide's Derived/Test/ToyasCard.lean, 'card_holds'). Laid BY PROGRAM, IN A SANDBOX (cutbox-door.mjs). By AI agents, Wed Nov 11 2026. No macro, syntax, notation, axiom, sorry.
-/
import Derived.Test.YtecbmndgpepkcaaGreatDoorRows
import GoSem.ClaimSeven
namespace Go.Proofs.YtecbmndgpepkcaaGreatDoor
namespace Rows

/-- THE TIED CARD OF 'coldpluglaw15.EvaluateAlone'. -/
def evaluateAloneCard : Claim7 := { stood := { row := evaluateAloneRow, standIns := [], harness := (true, "2a3bd185634865b5f206827ef60543f9a27cb2c68a417d245a8fe3a938dfafbe"), looks := true }, kinds := [], alts := [], laidByText := true, laidKinds := [.data, .data, .data, .data, .sentinel, .sentinel, .pinned, .pinned], laidTests := true, laidLooks := .later }
def EvaluateAloneCardSaid : Prop := Claim7.holds Tryz.pinned (.plain (OpenSpec.ofChange evaluateAloneSpec)) evaluateAloneCard

/-- THE TIED CARD OF 'coldpluglaw15.EvaluateNever'. -/
def evaluateNeverCard : Claim7 := { stood := { row := evaluateNeverRow, standIns := [], harness := (true, "2a3bd185634865b5f206827ef60543f9a27cb2c68a417d245a8fe3a938dfafbe"), looks := true }, kinds := [], alts := [], laidByText := true, laidKinds := [.data, .data, .data, .data, .sentinel, .sentinel, .pinned, .pinned], laidTests := true, laidLooks := .later }
def EvaluateNeverCardSaid : Prop := Claim7.holds Tryz.pinned (.plain (OpenSpec.ofChange evaluateNeverSpec)) evaluateNeverCard

/-- THE TIED CARD OF 'coldpluglaw15.EvaluateJumps'. -/
def evaluateJumpsCard : Claim7 := { stood := { row := evaluateJumpsRow, standIns := [], harness := (true, "2a3bd185634865b5f206827ef60543f9a27cb2c68a417d245a8fe3a938dfafbe"), looks := true }, kinds := [], alts := [], laidByText := true, laidKinds := [.data, .data, .data, .data, .sentinel, .sentinel, .pinned, .pinned], laidTests := true, laidLooks := .later }
def EvaluateJumpsCardSaid : Prop := Claim7.holds Tryz.pinned (.plain (OpenSpec.ofChange evaluateJumpsSpec)) evaluateJumpsCard

/-- THE SECOND FORM's CARD OF 'coldpluglaw15.EvaluateAlone'. -/
def evaluateAloneUptoCard : Claim7 := { stood := { row := evaluateAloneUptoRow, standIns := [], harness := (true, "2a3bd185634865b5f206827ef60543f9a27cb2c68a417d245a8fe3a938dfafbe"), looks := true }, kinds := [], alts := [], laidByText := true, laidKinds := [.data, .data, .data, .data, .sentinel, .sentinel, .pinned, .pinned], laidTests := true, laidLooks := .later }
def EvaluateAloneUptoCardSaid : Prop := Claim7.holds Tryz.pinned (.plain (OpenSpec.upto evaluateAloneSpec)) evaluateAloneUptoCard

/-- THE SECOND FORM's CARD OF 'coldpluglaw15.EvaluateNever'. -/
def evaluateNeverUptoCard : Claim7 := { stood := { row := evaluateNeverUptoRow, standIns := [], harness := (true, "2a3bd185634865b5f206827ef60543f9a27cb2c68a417d245a8fe3a938dfafbe"), looks := true }, kinds := [], alts := [], laidByText := true, laidKinds := [.data, .data, .data, .data, .sentinel, .sentinel, .pinned, .pinned], laidTests := true, laidLooks := .later }
def EvaluateNeverUptoCardSaid : Prop := Claim7.holds Tryz.pinned (.plain (OpenSpec.upto evaluateNeverSpec)) evaluateNeverUptoCard

/-- THE SECOND FORM's CARD OF 'coldpluglaw15.EvaluateJumps'. -/
def evaluateJumpsUptoCard : Claim7 := { stood := { row := evaluateJumpsUptoRow, standIns := [], harness := (true, "2a3bd185634865b5f206827ef60543f9a27cb2c68a417d245a8fe3a938dfafbe"), looks := true }, kinds := [], alts := [], laidByText := true, laidKinds := [.data, .data, .data, .data, .sentinel, .sentinel, .pinned, .pinned], laidTests := true, laidLooks := .later }
def EvaluateJumpsUptoCardSaid : Prop := Claim7.holds Tryz.pinned (.plain (OpenSpec.upto evaluateJumpsSpec)) evaluateJumpsUptoCard
end Rows
end Go.Proofs.YtecbmndgpepkcaaGreatDoor

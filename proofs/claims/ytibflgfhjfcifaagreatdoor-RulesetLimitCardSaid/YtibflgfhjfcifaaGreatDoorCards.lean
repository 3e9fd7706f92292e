/-
  DERIVED. GIVEN WITH THE SEED: THE CARDS: each row of YtibflgfhjfcifaaGreatDoorRows.lean that lists a variable, with what it lists TIED to the program's text (the seventh form; the later family's looks); each row that meets fmt, with fmt's text TOLD by the authors' own Lean function (tested against real Go, not proved from fmt's source: count such statements apart). THE CARD IS WHAT COUNTS. Prove the row's statement (the work); the ties are given (YtibflgfhjfcifaaGreatDoorTie.lean); close each card by the builder's one call (the guide's Derived/Test/ToyasCard.lean, 'card_holds'). Laid BY PROGRAM, IN A SANDBOX (cutbox-door.mjs). By AI agents, Wed Nov 11 2026. No macro, syntax, notation, axiom, sorry.
-/
import Derived.Test.YtibflgfhjfcifaaGreatDoorRows
import GoSem.ClaimSeven
namespace Go.Proofs.YtibflgfhjfcifaaGreatDoor
namespace Rows

/-- THE TIED CARD OF 'coldpluglaw10.GrammarLinks'. -/
def grammarLinksCard : Claim7 := { stood := { row := grammarLinksRow, standIns := [], harness := (true, "5320cd24af44927f2f141ee9af4438bb4aaa1553224afd749eaa4b87db77b83c"), looks := true }, kinds := [], alts := [], laidByText := true, laidKinds := [.data, .data, .data, .data, .sentinel, .sentinel, .pinned, .pinned], laidTests := true, laidLooks := .later }
def GrammarLinksCardSaid : Prop := Claim7.holds Tryz.pinned (.plain (OpenSpec.ofChange grammarLinksSpec)) grammarLinksCard

/-- THE TIED CARD OF 'coldpluglaw10.GrammarReaches'. -/
def grammarReachesCard : Claim7 := { stood := { row := grammarReachesRow, standIns := [], harness := (true, "5320cd24af44927f2f141ee9af4438bb4aaa1553224afd749eaa4b87db77b83c"), looks := true }, kinds := [], alts := [], laidByText := true, laidKinds := [.data, .data, .data, .data, .sentinel, .sentinel, .pinned, .pinned], laidTests := true, laidLooks := .later }
def GrammarReachesCardSaid : Prop := Claim7.holds Tryz.pinned (.plain (OpenSpec.ofChange grammarReachesSpec)) grammarReachesCard

/-- THE TIED CARD OF 'coldpluglaw17.RulesetLoads'. -/
def rulesetLoadsCard : Claim7 := { stood := { row := rulesetLoadsRow, standIns := [], harness := (true, "5320cd24af44927f2f141ee9af4438bb4aaa1553224afd749eaa4b87db77b83c"), looks := true }, kinds := [], alts := [], laidByText := true, laidKinds := [.data, .data, .data, .data, .sentinel, .sentinel, .pinned, .pinned], laidTests := true, laidLooks := .later }
def RulesetLoadsCardSaid : Prop := Claim7.holds Tryz.pinned (.plain (OpenSpec.ofChange rulesetLoadsSpec)) rulesetLoadsCard

/-- THE TIED CARD OF 'coldpluglaw17.RulesetValid'. -/
def rulesetValidCard : Claim7 := { stood := { row := rulesetValidRow, standIns := [], harness := (true, "5320cd24af44927f2f141ee9af4438bb4aaa1553224afd749eaa4b87db77b83c"), looks := true }, kinds := [], alts := [], laidByText := true, laidKinds := [.data, .data, .data, .data, .sentinel, .sentinel, .pinned, .pinned], laidTests := true, laidLooks := .later }
def RulesetValidCardSaid : Prop := Claim7.holds Tryz.pinned (.plain (OpenSpec.ofChange rulesetValidSpec)) rulesetValidCard

/-- THE TIED CARD OF 'coldpluglaw17.RulesetLimit'. -/
def rulesetLimitCard : Claim7 := { stood := { row := rulesetLimitRow, standIns := [], harness := (true, "5320cd24af44927f2f141ee9af4438bb4aaa1553224afd749eaa4b87db77b83c"), looks := true }, kinds := [], alts := [], laidByText := true, laidKinds := [.data, .data, .data, .data, .sentinel, .sentinel, .pinned, .pinned], laidTests := true, laidLooks := .later }
def RulesetLimitCardSaid : Prop := Claim7.holds Tryz.pinned (.plain (OpenSpec.ofChange rulesetLimitSpec)) rulesetLimitCard

/-- THE SECOND FORM's CARD OF 'coldpluglaw10.GrammarLinks'. -/
def grammarLinksUptoCard : Claim7 := { stood := { row := grammarLinksUptoRow, standIns := [], harness := (true, "5320cd24af44927f2f141ee9af4438bb4aaa1553224afd749eaa4b87db77b83c"), looks := true }, kinds := [], alts := [], laidByText := true, laidKinds := [.data, .data, .data, .data, .sentinel, .sentinel, .pinned, .pinned], laidTests := true, laidLooks := .later }
def GrammarLinksUptoCardSaid : Prop := Claim7.holds Tryz.pinned (.plain (OpenSpec.upto grammarLinksSpec)) grammarLinksUptoCard

/-- THE SECOND FORM's CARD OF 'coldpluglaw10.GrammarReaches'. -/
def grammarReachesUptoCard : Claim7 := { stood := { row := grammarReachesUptoRow, standIns := [], harness := (true, "5320cd24af44927f2f141ee9af4438bb4aaa1553224afd749eaa4b87db77b83c"), looks := true }, kinds := [], alts := [], laidByText := true, laidKinds := [.data, .data, .data, .data, .sentinel, .sentinel, .pinned, .pinned], laidTests := true, laidLooks := .later }
def GrammarReachesUptoCardSaid : Prop := Claim7.holds Tryz.pinned (.plain (OpenSpec.upto grammarReachesSpec)) grammarReachesUptoCard

/-- THE SECOND FORM's CARD OF 'coldpluglaw17.RulesetLoads'. -/
def rulesetLoadsUptoCard : Claim7 := { stood := { row := rulesetLoadsUptoRow, standIns := [], harness := (true, "5320cd24af44927f2f141ee9af4438bb4aaa1553224afd749eaa4b87db77b83c"), looks := true }, kinds := [], alts := [], laidByText := true, laidKinds := [.data, .data, .data, .data, .sentinel, .sentinel, .pinned, .pinned], laidTests := true, laidLooks := .later }
def RulesetLoadsUptoCardSaid : Prop := Claim7.holds Tryz.pinned (.plain (OpenSpec.upto rulesetLoadsSpec)) rulesetLoadsUptoCard

/-- THE SECOND FORM's CARD OF 'coldpluglaw17.RulesetValid'. -/
def rulesetValidUptoCard : Claim7 := { stood := { row := rulesetValidUptoRow, standIns := [], harness := (true, "5320cd24af44927f2f141ee9af4438bb4aaa1553224afd749eaa4b87db77b83c"), looks := true }, kinds := [], alts := [], laidByText := true, laidKinds := [.data, .data, .data, .data, .sentinel, .sentinel, .pinned, .pinned], laidTests := true, laidLooks := .later }
def RulesetValidUptoCardSaid : Prop := Claim7.holds Tryz.pinned (.plain (OpenSpec.upto rulesetValidSpec)) rulesetValidUptoCard

/-- THE SECOND FORM's CARD OF 'coldpluglaw17.RulesetLimit'. -/
def rulesetLimitUptoCard : Claim7 := { stood := { row := rulesetLimitUptoRow, standIns := [], harness := (true, "5320cd24af44927f2f141ee9af4438bb4aaa1553224afd749eaa4b87db77b83c"), looks := true }, kinds := [], alts := [], laidByText := true, laidKinds := [.data, .data, .data, .data, .sentinel, .sentinel, .pinned, .pinned], laidTests := true, laidLooks := .later }
def RulesetLimitUptoCardSaid : Prop := Claim7.holds Tryz.pinned (.plain (OpenSpec.upto rulesetLimitSpec)) rulesetLimitUptoCard
end Rows
end Go.Proofs.YtibflgfhjfcifaaGreatDoor
